import Derived.Maps.Own
import Derived.Maps.OwnIn
import Derived.Maps.Views
import Derived.Maps.RangeWalk
import Derived.Deep.LoopGhost
import Derived.Shelf.Spec.SlicesInsertGrow
import Derived.Test.YtonhfknjcbakiaaGreatDoorB7
import Derived.Test.YtonhfknjcbakiaaGreatDoorB31
set_option maxHeartbeats 16000000
set_option linter.unusedVariables false
set_option linter.unusedSimpArgs false
set_option maxRecDepth 100000
namespace Go.Proofs.YtonhfknjcbakiaaGreatDoor
open Go.RowKit
def ec (e:En):List PV:=[.v (.int .u64 e.rep),.v (.int .u64 e.max),rg e.holes]
def ep (e:En):PV:=.agg (ec e)
attribute [go_sem] ep ec
theorem zjh (a b:En) (hl:a.holes.length<=1152921504606846976):Cn Tryz.prog 109 [ep a,ep b] (.v (.bool (decide (a=b)))):=by
 refine zt Tryz.func109 2 ?_
 refine pw ?_
 have key:(a=b) ↔ (a.rep=b.rep/\a.max=b.max/\a.holes=b.holes):=⟨fun h=>by subst h;exact⟨rfl,rfl,rfl⟩,fun h=>En.ext' h.1 h.2.1 h.2.2⟩
 refine .i ?_ ?_<;>intro h1<;>(try simp only [zb] at h1)<;>first | refine pw ?_ | exact pd
 ·refine .i ?_ ?_<;>intro h2<;>(try simp only [zb] at h2)<;>first | refine pw ?_ | exact pd
  ·refine .c (zgI a.holes b.holes hl) ?_
   simp [key,h1,h2]
  ·simp [key,h2]
 ·simp [key,h1]
def hk (m:Nat):List Iv->Nat->Nat × Int
 | [],_=>(0,-1)
 | s::r,i=>if m<s.hi then (4,(i:Int)) else hk m r (i+1)
def yV (e:En):Nat × Int:=if (Zl e.holes).1=0 then hk e.max e.holes 0 else Zl e.holes
theorem K4 (m:Nat):∀(l:List Iv) (i:Nat),(hk m l i).1=0 ↔ ∀ s ∈ l,s.hi<=m
 | [],i=>by simp [hk]
 | s::r,i=>by
   have:=K4 m r (i+1)
   unfold hk
   split
   ·simp;omega
   ·rw [this];simp;omega
theorem K3 {m:Nat} {l:List Iv} {k:Nat} (h:k<l.length):hk m (l.drop k) k=if m<l[k].hi then (4,(k:Int)) else hk m (l.drop (k+1)) (k+1):=by
 rw [List.drop_eq_getElem_cons h];rfl
def Xu (e:En):Bool:=decide ((yV e).1=0)
theorem VU {e:En} (h:∀ s ∈ e.holes,s.lo<zk/\s.hi<zk) (h1:e.max<zk) (h2:e.rep<zk):Xu e=true ↔ zO e:=by
 have hn:=YT (l:=e.holes) fun s hs=>(h s hs).2
 have hz:=K4 e.max e.holes 0
 unfold Xu yV zO
 rw [decide_eq_true_eq]
 by_cases h':(Zl e.holes).1=0
 ·rw [if_pos h',hz]
  exact⟨fun g=>⟨hn.1 h',g,h1,h2⟩,fun g=>g.2.1⟩
 ·rw [if_neg h']
  exact⟨fun g=>absurd g h',fun g=>absurd (hn.2 g.1) h'⟩
theorem zcj (e:En) (hl:e.holes.length<=9223372036854775807) (hb:∀ s ∈ e.holes,s.lo<zk/\s.hi<zk):Cn Tryz.prog 137 [ep e] (.tup [.v (.int .i64 (yV e).1),.v (.int .i64 (yV e).2)]):=by
 refine zt Tryz.func137 1 ?_
 refine pw ?_
 refine .c (XO e.holes hl hb) ?_
 refine .i ?_ ?_<;>intro h<;>(try simp only [zb] at h)<;>first | refine pw ?_ | exact pd
 ·unfold yV
  rw [if_neg (by omega)]
 ·refine pLoop.go (fun k=>k<=e.holes.length/\yV e=hk e.max (e.holes.drop k) k) (fun k=>[(6,.v (.int .i64 (k:Nat)))]) (fun _=>[ec e]) (fun k=>e.holes.length - k) 0 [6] ?_ ?_ ?_
  ·refine⟨Nat.zero_le _,?_⟩
   unfold yV
   rw [if_pos (by omega)];rfl
  ·exact pd
  ·rintro k ⟨hk1,hm⟩
   refine pw ?_
   refine .i ?_ ?_<;>intro h1<;>(try simp only [zb] at h1)<;>first | refine pw ?_ | exact pd
   ·rw [K3 h1] at hm
    refine .i ?_ ?_<;>intro h2<;>(try simp only [zb] at h2)<;>first | refine pw ?_ | exact pd
    ·rw [hm,if_pos h2]
     simp
    ·rw [if_neg (by omega)] at hm
     exact⟨k+1,⟨h1,hm⟩,by omega,rfl⟩
   ·rw [List.drop_of_length_le h1] at hm
    rw [hm]
    simp [hk]
theorem zeq (x:Nat):Cn Tryz.prog 127 [.v (.int .u64 x)] (Je ⟨0,x⟩):=by
 refine zt Tryz.func127 1 ?_
 (first | refine pw ?_ | exact pd)
 try rfl
theorem XZ (e:En) (h:zO e) (hl:e.holes.length<=131072):Cn Tryz.prog 85 [ep e] (rg (kn e)):=by
 refine zt Tryz.func85 1 ?_
 refine pw ?_
 refine .c (zeq e.max) ?_
 refine .c (zg0 e.holes ⟨0,e.max⟩ h.1 (Nat.zero_le _) h.2.2.1 (by omega)) ?_
 rfl
section
variable (a b:En) (ha:zO a) (hb:zO b) (la:a.holes.length<=10000) (lb:b.holes.length<=10000)
include ha hb la lb
end
theorem zi9 {n:Int} (h : -9223372036854775808<=n/\n<9223372036854775808):IntKind.i64.wrap n=n:=by
 simp only [IntKind.wrap,IntKind.bits,IntKind.signed]
 simp
 omega
theorem KV (p:Nat->Prop) [DecidablePred p]:∀ n,(∀ i j,i<=j->j<n->p j->p i)->∃ i,i<=n/\(∀ j,j<i->p j)/\∀ j,i<=j->j<n->¬ p j
 | 0,_=>⟨0,Nat.le_refl _,fun j h=>absurd h (by omega),fun j h1 h2=>absurd h2 (by omega)⟩
 | n+1,h=>by
   by_cases hp:p n
   ·exact⟨n+1,Nat.le_refl _,fun j hj=>h j n (by omega) (by omega) hp,fun j h1 h2=>absurd h2 (by omega)⟩
   ·obtain⟨i,h1,h2,h3⟩:=KV p n fun i j hij hj=>h i j hij (by omega)
    refine⟨i,by omega,h2,fun j h4 h5=>?_⟩
    rcases Nat.lt_or_ge j n with h6 | h6
    ·exact h3 j h4 h6
    ·obtain rfl:j=n:=by omega
     exact hp
attribute [go_sem] zi9
theorem zhn (l:List Iv) (x:Nat) (g:FuncId) (c:Nat->Int) (i:Nat) (hi:i<=l.length) (h1:∀ j,j<i->c j<0) (h2:∀ j,i<=j->j<l.length->0<=c j) (hl:l.length<=1152921504606846976)
 (hg:∀ k (h:k<l.length),Cn Tryz.prog g [Je l[k],.v (.int .u64 x)] (.v (.int .i64 (c k)))):Cn Tryz.prog 190 [rg l,.v (.int .u64 x),.fn (.func g) [] []] (.tup [.v (.int .i64 i),.v (.bool (decide (i<l.length) && decide (c i=0)))]):=by
 refine zt Tryz.func190 3 ?_
 refine pw ?_
 refine pLoop.go (fun p:Nat × Nat=>p.1<=i/\i<=p.2/\p.2<=l.length) (fun p=>[(9,.v (.int .i64 (p.1:Nat))),(10,.v (.int .i64 (p.2:Nat)))]) (fun _=>[]) (fun p=>p.2 - p.1) (0,l.length) [9,10] ?_ ?_ ?_
 ·exact⟨Nat.zero_le _,hi,Nat.le_refl _⟩
 ·exact pd
 ·rintro⟨p,q⟩ ⟨k1,k2,k3⟩
  simp only at k1 k2 k3
  refine pw ?_
  refine .i ?_ ?_<;>intro h<;>(try simp only [zb] at h)<;>first | refine pw ?_ | exact pd
  ·have hm:(p+q) / 2<l.length:=by omega
   refine pw ?_
   (first | refine .c (hg ((p+q) / 2) hm) ?_ | refine .o (hg ((p+q) / 2) hm) ?_)
   refine .i ?_ ?_<;>intro h4<;>(try simp only [zb] at h4)<;>first | refine pw ?_ | exact pd
   ·refine⟨((p+q) / 2+1,q),⟨?_,k2,k3⟩,by simp only;omega,rfl,rfl⟩
    simp only
    refine Nat.lt_of_not_le fun h5=>?_
    have:=h2 _ h5 hm
    omega
   ·refine⟨(p,(p+q) / 2),⟨k1,?_,by simp only;omega⟩,by simp only;omega,rfl,rfl⟩
    simp only
    refine Nat.le_of_not_lt fun h5=>?_
    have:=h1 _ h5
    omega
  ·obtain rfl:p=i:=by omega
   obtain rfl:q=p:=by omega
   refine .i ?_ ?_<;>intro h4<;>(try simp only [zb] at h4)<;>first | refine pw ?_ | exact pd
   ·(first | refine .c (hg q h4) ?_ | refine .o (hg q h4) ?_)
    simp [h4]
   ·have h4':¬ q<l.length:=by omega
    simp [h4']
theorem zd5 (s:Iv) (x:Nat):Cn Tryz.prog 191 [Je s,.v (.int .u64 x)] (.v (.int .i64 (if s.hi<x then -1 else if x<s.lo then 1 else 0))):=by
 refine zt Tryz.func191 2 ?_
 refine pw ?_
 refine .i ?_ ?_<;>intro h1<;>(try simp only [zb] at h1)<;>first | refine pw ?_ | exact pd
 ·rw [if_pos h1]
 ·rw [if_neg (by omega)]
  refine .i ?_ ?_<;>intro h2<;>(try simp only [zb] at h2)<;>first | refine pw ?_ | exact pd
  ·rw [if_pos h2]
  ·rw [if_neg (by omega)]
theorem zdE {l:List Iv} (hl:Nrm l) (x:Nat):∃ i,i<=l.length/\(∀ j,(h:j<l.length)->j<i->l[j].hi<x)/\(∀ j,(h:j<l.length)->i<=j->x<=l[j].hi)/\(mem l x=true ↔ ∃ h:i<l.length,l[i].lo<=x):=by
 have mono:∀ {n:Nat} {l:List Iv},NF n l->∀ i j,(hij:i<j)->(hj:j<l.length)->l[i].hi<l[j].lo:=by
  intro n l
  induction l generalizing n with
  | nil=>intro _ i j _ hj;simp at hj
  | cons s l ih=>
    intro h i j hij hj
    obtain⟨j',rfl⟩:∃ j',j=j'+1:=⟨j - 1,by omega⟩
    cases i with
    | zero=>
      have:=NF.lo_ge h.2.2.2 (l[j']'(by simpa using hj)) (List.getElem_mem _)
      simp only [List.getElem_cons_zero,List.getElem_cons_succ]
      omega
    | succ i=>exact ih h.2.2.2 i j' (by omega) (by simpa using hj)
 obtain⟨i,h1,h2,h3⟩:=KV (fun j=>∃ h:j<l.length,l[j].hi<x) l.length fun a b hab hb ⟨h4,h5⟩=>by
  refine⟨by omega,?_⟩
  rcases Nat.lt_or_eq_of_le hab with h6 | h6
  ·have:=mono hl a b h6 hb
   have:=NF.lo_ge hl l[b] (List.getElem_mem _)
   omega
  ·subst h6;exact h5
 have h3':∀ j,(h:j<l.length)->i<=j->x<=l[j].hi:=fun j hj hij=>by
  have:=h3 j hij hj
  exact Nat.le_of_not_lt fun h=>this ⟨hj,h⟩
 refine⟨i,h1,fun j hj hji=>(h2 j hji).2,h3',?_⟩
 rw [qf]
 constructor
 ·rintro⟨s,hs,h4,h5⟩
  obtain⟨j,hj,rfl⟩:=List.getElem_of_mem hs
  have hij:i<=j:=Nat.le_of_not_lt fun h=>by have:=(h2 j h).2;omega
  refine⟨by omega,?_⟩
  rcases Nat.lt_or_eq_of_le hij with h6 | h6
  ·have:=mono hl i j h6 hj
   have:=NF.lo_ge hl (l[i]'(by omega)) (List.getElem_mem _)
   omega
  ·subst h6;exact h4
 ·rintro⟨h,h4⟩
  exact⟨l[i],List.getElem_mem _,h4,h3' i h (Nat.le_refl _)⟩
def zaT (x:Nat) (s:Iv):Int:=if s.hi<x then -1 else if x<s.lo then 1 else 0
theorem ziQ (l:List Iv) (x:Nat) (hl:Nrm l) (hn:l.length<=1152921504606846976):Cn Tryz.prog 111 [rg l,.v (.int .u64 x)] (.v (.bool (mem l x))):=by
 obtain⟨i,h1,h2,h3,h4⟩:=zdE hl x
 have hF:Cn Tryz.prog 158 [rg l,.v (.int .u64 x)] (.v (.int .i64 (if mem l x then (i:Int) else -1))):=by
  refine zt Tryz.func158 2 ?_
  refine pw ?_
  refine .c (zhn l x 191 (fun k=>if h:k<l.length then zaT x l[k] else 0) i h1 (fun j hj=>by rw [dif_pos (show j<l.length by omega)];unfold zaT;rw [if_pos (h2 j (by omega) hj)];decide) (fun j hj hjl=>by rw [dif_pos hjl];unfold zaT;rw [if_neg (by have:=h3 j hjl hj;omega)];split<;>decide) hn (fun k h=>by rw [dif_pos h];exact zd5 l[k] x)) ?_
  have e:(decide (i<l.length) && decide ((if h:i<l.length then zaT x l[i] else 0)=0))=mem l x:=by
   rw [Bool.eq_iff_iff,h4]
   simp only [Bool.and_eq_true,decide_eq_true_eq]
   constructor
   ·rintro⟨k1,k2⟩
    refine⟨k1,?_⟩
    rw [dif_pos k1] at k2
    unfold zaT at k2
    split at k2
    ·cases k2
    ·split at k2
     ·cases k2
     ·omega
   ·rintro⟨k1,k2⟩
    refine⟨k1,?_⟩
    rw [dif_pos k1]
    unfold zaT
    rw [if_neg (by have:=h3 i k1 (Nat.le_refl _);omega),if_neg (by omega)]
  rw [e]
  refine .i ?_ ?_<;>intro h5<;>(try simp only [zb] at h5)<;>first | refine pw ?_ | exact pd
  ·rw [h5];rfl
  ·rw [h5];rfl
 refine zt Tryz.func111 2 ?_
 refine pw ?_
 (first | refine .c (hF) ?_ | refine .o (hF) ?_)
 cases mem l x<;>simp
theorem zoS (e:En) (c:Nat) (h:zO e) (hn:e.holes.length<=1152921504606846976):Cn Tryz.prog 155 [ep e,.v (.int .u64 c)] (.v (.bool (decide (c<=e.max) && !mem e.holes c))):=by
 refine zt Tryz.func155 2 ?_
 refine pw ?_
 refine .i ?_ ?_<;>intro h1<;>(try simp only [zb] at h1)<;>first | refine pw ?_ | exact pd
 ·refine .c (ziQ e.holes c h.1 hn) ?_
  simp [h1]
 ·have h1':¬ c<=e.max:=by omega
  simp [h1']
def vp (v:List En):PV:=.sl (v.map ec) .sh
attribute [go_sem] vp
def ZL (e:En):Prop:=(∀ s ∈ e.holes,s.lo<zk/\s.hi<zk)/\e.max<zk/\e.rep<zk
def ea:En:=⟨1,2,[]⟩
def eb:En:=⟨1,5,[⟨3,4⟩]⟩
def ed:En:=⟨1,5,[]⟩
section
variable (a b:En) (ha:ZL a) (hb:ZL b)
include ha hb
end
def ns (l:List Nat):PV:=.sl (l.map yN) .sh
attribute [go_sem] ns
theorem vL {D:Nat->Nat->Prop} {base:Nat} {w:World} {v:Value} {l:List Nat} (h:OwnN base w v l) (hD:∀ b o,base<=b->b<w.heap.size->D b o):Dat D w v (ns l):=by
 unfold ns
 have hlen:(l.map yN).length=l.length:=by simp
 rcases id h.2 with⟨rfl,h0⟩ | ⟨g,cap,cur,rfl,hg,hh,hn,hc,_⟩
 ·obtain rfl:l=[]:=List.length_eq_zero_iff.1 h0
  exact .sl none 0 1 [] .sh 0 0 (fun _=>undef) (by simp) (fun h=>by cases h) (by unfold maxLen;omega) (fun h=>absurd rfl h) (fun i e h=>by simp at h) (fun j h=>by simp at h) (fun i e j p h=>by simp at h)
 ·rw [<-hlen]
  refine .sl _ cap 1 _ .sh g 0 (fun j=>.int .u64 (l.getD j 0:Nat)) (by simpa using hn) (fun h=>by cases h) hc (fun _=>rfl) (fun i e h=>?_) (fun j hj=>?_) (fun i e j p he hp=>?_)
  ·simp only [List.getElem?_map,Option.map_eq_some_iff] at h
   obtain⟨s,_,rfl⟩:=h
   rfl
  ·simp only [List.length_map,Nat.mul_one] at hj
   refine⟨hD _ _ hg (Array.getElem?_eq_some_iff.1 hh).1,?_,rfl⟩
   rw [Nat.zero_add,h.cellAt _ (by simpa using hj)]
   simp [hj]
  ·have hi:i<l.length:=by have:=(List.getElem?_eq_some_iff.1 he).1;simpa using this
   rw [xo hi] at he
   cases he
   match j,hp with
   | 0,hp=>cases hp;simp [hi];exact .v _
   | j+1,hp=>simp [yN] at hp
end Go.Proofs.YtonhfknjcbakiaaGreatDoor
namespace Go.Proofs.YtonhfknjcbakiaaGreatDoor
open Go.RowKit Go.Maps
abbrev DV:=DataW Value
def rV (v:Value):Option (DV × List MemPlace):=some (.held v,[])
def zP:Value:=.agg #[.slice none 0 0,.slice none 0 0]
def kR (r:Nat):Lit:=.int .u64 (r:Nat)
theorem vF:Keyed Tryz.prog 24 := int_keyed Tryz.underlying24
theorem zeC (w:World):(zeroValue 200).run Tryz.prog w=.ok zP w:=by kernel_rfl
theorem Zq {r:Nat} (h:r<zk):keyOf Tryz.prog 24 (.int .u64 (r:Nat))=some (kR r):=by
 rw [zw] at h
 refine keyOf_int_mk Tryz.underlying24 ?_
 simp [Lit.wf,IntKind.min,IntKind.max,IntKind.signed,IntKind.bits]
 omega
theorem Qc (r:Nat):WideAt.IsKeyLit (kR r):=trivial
theorem Xa {r s:Nat} (h:kR r=kR s):r=s:=by
 unfold kR at h
 injection h with _ h
 omega
def DL (C:Nat->Nat->Prop) (mb:Nat) (w:World):Nat->Nat->Prop:=fun b o=>C b o\/(mb<b/\b<w.heap.size)
def rdF (C:Nat->Nat->Prop) (w:World) (b o:Nat) (e:En):Prop:=w.cell? ⟨b,o,none⟩=some (.int .u64 e.rep)/\w.cell? ⟨b,o+1,none⟩=some (.int .u64 e.max)/\(∃ hv,w.cell? ⟨b,o+2,none⟩=some hv/\Dat C w hv (rg e.holes))/\e.rep<zk/\e.max<zk
def RdF (C:Nat->Nat->Prop) (n0:Nat) (w:World) (v:Value) (l:List En):Prop:=RdSl 3 (rdF C) 0 n0 w v l
theorem RdF.keep {C:Nat->Nat->Prop} {n0:Nat} {w w':World} {v:Value} {l:List En} (hC:∀ b o,C b o->b<n0) (h:RdF C n0 w v l) (hb:∀ k,k<n0->w'.heap[k]? = w.heap[k]?):RdF C n0 w' v l:=
 RdSl.keep h (Nat.le_refl _) (Nat.le_refl _) fun b o x _ h2 ⟨c0,c1,⟨hv,c2,c3⟩,c4⟩=>
  ⟨(World.cell?_of_block (a:=⟨b,o,none⟩) (hb b h2)).trans c0,(World.cell?_of_block (a:=⟨b,o+1,none⟩) (hb b h2)).trans c1,⟨hv,(World.cell?_of_block (a:=⟨b,o+2,none⟩) (hb b h2)).trans c2,c3.mono (fun _ _ h=>h) fun b o x hD hx=>(World.cell?_of_block (a:=⟨b,o,none⟩) (hb b (hC b o hD))).trans hx⟩,c4⟩
theorem dat_rdf {D:Nat->Nat->Prop} {w:World} {x:Value} {v:List En} (h:Dat D w x (vp v)) (hD:∀ b o,D b o->b<w.heap.size) (hb:∀ e ∈ v,ZL e):RdF D w.heap.size w x v:=by
 unfold vp at h
 generalize he:v.map ec=es at h
 cases h with
 | sl a cap sz es o b off u hc hz hm ha hsz hd hx=>
   have hl:es.length=v.length:=by rw [<-he];simp
   refine⟨a,cap,by rw [hl],by omega,hm,fun hne=>?_⟩
   have hpos:0<v.length:=List.length_pos_iff.2 hne
   have g:∀ i (h:i<v.length),es[i]? = some (ec v[i]):=fun i h=>by rw [<-he];exact xo h
   obtain rfl:3=sz:=hsz 0 _ (g 0 hpos)
   have hes:es≠[]:=by intro e;subst e;simp at hl;omega
   have hdlt:b<w.heap.size:=hD _ _ (hd 0 (by omega)).1
   refine⟨b,off,ha hes,Nat.zero_le _,hdlt,fun i hi=>?_⟩
   have e0:=(hx i _ 0 _ (g i hi) rfl).v_inv
   have e1:=(hx i _ 1 _ (g i hi) rfl).v_inv
   have e2:=hx i _ 2 _ (g i hi) rfl
   have c0:=(hd (i * 3+0) (by omega)).2.1
   have c1:=(hd (i * 3+1) (by omega)).2.1
   have c2:=(hd (i * 3+2) (by omega)).2.1
   rw [e0] at c0
   rw [e1] at c1
   obtain⟨b1,b2,b3⟩:=hb _ (List.getElem_mem hi)
   exact⟨c0,c1,⟨_,c2,e2⟩,b3,b2⟩
def PairD (C:Nat->Nat->Prop) (w:World) (mb:Nat) (D:DV) (dom:List Nat) (f0 f1:Nat->List Iv):Prop:=
 IsMap D/\∀ r,has D (kR r)=decide (r ∈ dom)/\∃ s0 s1,D.atKey (kR r) (.held zP)=.held (.agg #[s0,s1])/\Dat (DL C mb w) w s0 (rg (f0 r))/\Dat (DL C mb w) w s1 (rg (f1 r))
theorem KN {D:Nat->Nat->Prop} {w:World}:Dat D w (.slice none 0 0) (rg []):=.sl none 0 2 [] .sh 0 0 (fun _=>undef) (by simp) (fun h=>by cases h) (by decide) (fun h=>absurd rfl h) (fun i e h=>by simp at h) (fun j h=>by simp at h) (fun i e j p h=>by simp at h)
theorem PairD.start (C:Nat->Nat->Prop) (w:World) (mb:Nat):PairD C w mb (.map []) [] (fun _=>[]) (fun _=>[]):=
 ⟨⟨[],rfl⟩,fun r=>⟨by simp [has],_,_,rfl,KN,KN⟩⟩
theorem PairD.mono {C:Nat->Nat->Prop} {w w':World} {mb:Nat} {D:DV} {dom:List Nat} {f0 f1:Nat->List Iv} (hC:∀ b o,C b o->b<mb) (h:PairD C w mb D dom f0 f1) (hs:w.heap.size<=w'.heap.size) (hb:∀ k,k<w.heap.size->k≠mb->w'.heap[k]? = w.heap[k]?):PairD C w' mb D dom f0 f1:=by
 refine⟨h.1,fun r=>⟨(h.2 r).1,?_⟩⟩
 obtain⟨s0,s1,e,d0,d1⟩:=(h.2 r).2
 have hw:∀ b o x,DL C mb w b o->w.cell? ⟨b,o,none⟩=some x->w'.cell? ⟨b,o,none⟩=some x:=fun b o x hD hx=>
  (World.cell?_of_block (a:=⟨b,o,none⟩) (hb b (World.block_lt_of_cell? w ⟨b,o,none⟩ hx) (by rcases hD with hD | hD;have:=hC b o hD;omega;omega))).trans hx
 have hD:∀ b o,DL C mb w b o->DL C mb w' b o:=fun b o hD=>hD.imp id fun h=>⟨h.1,Nat.lt_of_lt_of_le h.2 hs⟩
 exact⟨s0,s1,e,d0.mono hD hw,d1.mono hD hw⟩
theorem PairD.put0 {C:Nat->Nat->Prop} {w:World} {mb:Nat} {D:DV} {dom:List Nat} {f0 f1:Nat->List Iv} (h:PairD C w mb D dom f0 f1) {r0:Nat} {l:List Iv} {s s0 s1:Value} (hs:Dat (DL C mb w) w s (rg l)) (he:D.atKey (kR r0) (.held zP)=.held (.agg #[s0,s1])) :
 PairD C w mb (D.put (kR r0) (.held (.agg #[s,s1]))) (dom++[r0]) (fun r=>if r=r0 then l else f0 r) f1:=by
 refine⟨h.1.put _ _,fun r=>?_⟩
 by_cases e:r=r0
 ·subst e
  obtain⟨t0,t1,e1,d0,d1⟩:=(h.2 r).2
  rw [he] at e1
  cases e1
  exact⟨by rw [has_put_same h.1 (Qc _)];simp,s,s1,atKey_put_same h.1 (Qc _) _ _,by dsimp only;rw [if_pos rfl];exact hs,d1⟩
 ·have hne:kR r≠kR r0:=fun h=>e (Xa h)
  obtain⟨t0,t1,e1,d0,d1⟩:=(h.2 r).2
  exact⟨by rw [has_put_other hne,(h.2 r).1];simp [e],t0,t1,by rw [atKey_put_other hne];exact e1,by dsimp only;rw [if_neg e];exact d0,d1⟩
theorem PairD.put1 {C:Nat->Nat->Prop} {w:World} {mb:Nat} {D:DV} {dom:List Nat} {f0 f1:Nat->List Iv} (h:PairD C w mb D dom f0 f1) {r0:Nat} {l:List Iv} {s s0 s1:Value} (hs:Dat (DL C mb w) w s (rg l)) (he:D.atKey (kR r0) (.held zP)=.held (.agg #[s0,s1])) :
 PairD C w mb (D.put (kR r0) (.held (.agg #[s0,s]))) (dom++[r0]) f0 (fun r=>if r=r0 then l else f1 r):=by
 refine⟨h.1.put _ _,fun r=>?_⟩
 by_cases e:r=r0
 ·subst e
  obtain⟨t0,t1,e1,d0,d1⟩:=(h.2 r).2
  rw [he] at e1
  cases e1
  exact⟨by rw [has_put_same h.1 (Qc _)];simp,s0,s,atKey_put_same h.1 (Qc _) _ _,d0,by dsimp only;rw [if_pos rfl];exact hs⟩
 ·have hne:kR r≠kR r0:=fun h=>e (Xa h)
  obtain⟨t0,t1,e1,d0,d1⟩:=(h.2 r).2
  exact⟨by rw [has_put_other hne,(h.2 r).1];simp [e],t0,t1,by rw [atKey_put_other hne];exact e1,d0,by dsimp only;rw [if_neg e];exact d1⟩
theorem zc9 {v:List En} {e:En} (h:∀ f ∈ v,f.rep≠e.rep) (r:Nat):zT (v++[e]) r=if r=e.rep then kn e else zT v r:=by
 unfold zT
 rw [List.find?_append]
 by_cases hr:r=e.rep
 ·subst hr
  rw [if_pos rfl,show List.find? (fun f=>f.rep == e.rep) v=none from List.find?_eq_none.2 fun f hf=>by simpa using h f hf]
  simp
 ·rw [if_neg hr]
  have:List.find? (fun f=>f.rep == r) [e]=none:=by simp;exact fun h=>hr h.symm
  rw [this,Option.or_none]
theorem Vj {v:List En} (h:RightV v) {k:Nat} (hk:k<v.length):zT (v.take (k+1))=fun r=>if r=v[k].rep then kn v[k] else zT (v.take k) r:=by
 funext r
 rw [List.take_succ_eq_append_getElem hk]
 refine zc9 (fun f hf=>?_) r
 obtain⟨i,hi,rfl⟩:=List.getElem_of_mem hf
 have hik:i<k:=by simp at hi;omega
 have:=List.pairwise_iff_getElem.1 h.2 i k (by omega) hk hik
 simp only [List.getElem_take]
 omega
def SmV (v:List En):Prop:=RightV v/\v.length<=1048576/\∀ e ∈ v,e.holes.length<=10000
end Go.Proofs.YtonhfknjcbakiaaGreatDoor
namespace Go.Proofs.YtonhfknjcbakiaaGreatDoor
open Go.RowKit Go.Maps
attribute [-go_sem] z7
theorem zkt (a1 a2:Option Addr) (n1 n2 c1 c2:Nat) (w:World):(Instr.index 239 (.agg #[.slice a1 n1 c1,.slice a2 n2 c2]) (.int .i64 0)).run Tryz.prog w=.ok (.slice a1 n1 c1) w:=by kernel_rfl
theorem zku (a1 a2:Option Addr) (n1 n2 c1 c2:Nat) (w:World):(Instr.index 239 (.agg #[.slice a1 n1 c1,.slice a2 n2 c2]) (.int .i64 1)).run Tryz.prog w=.ok (.slice a2 n2 c2) w:=by kernel_rfl
theorem zK {D:Nat->Nat->Prop} {w:World} {v:Value} {l:List Iv} (h:Dat D w v (rg l)):∃ ad cap,v=.slice ad l.length cap:=by
 have h':Dat D w v (.sl (l.map Q2) .sh):=h
 obtain⟨ad,cap,sz,b,off,f,e1,_⟩:=(Rel.dat (ρ:=fun _=>0) (nb:=0) h').inv_sl
 rw [List.length_map] at e1
 exact⟨ad,cap,e1⟩
theorem yg {w w':World} {b n:Nat} {D:DV} (h:w.ownsMap Tryz.prog 24 rV b n D) (hb:w'.heap[b]? = w.heap[b]?):w'.ownsMap Tryz.prog 24 rV b n D:=by
 obtain⟨es,clock,h1,r⟩:=h
 exact⟨es,clock,hb.trans h1,r⟩
theorem Qf {w:World} {b n:Nat} {D:DV} (h:w.ownsMap Tryz.prog 24 rV b n D) {r:Nat} (hr:r<zk) {s0 s1:Value} (he:D.atKey (kR r) (.held zP)=.held (.agg #[s0,s1])) :
 (Instr.lookup 195 (.map (some b)) (.int .u64 (r:Nat)) false).run Tryz.prog w=.ok (.agg #[s0,s1]) w:=by
 obtain⟨v,ps,h1,h2⟩:=h.lookup vF Tryz.underlying195 (zeC w) (zd:=.held zP) (zp:=[]) rfl (Zq hr)
 rw [he] at h2
 unfold rV at h2
 cases h2
 exact h1
theorem zeI {D:Nat->Nat->Prop} {w:World} {e:En} {ah:Option Addr} {ch:Nat} (hd:Dat D w (.slice ah e.holes.length ch) (rg e.holes)):Dat D w (.agg #[.int .u64 e.rep,.int .u64 e.max,.slice ah e.holes.length ch]) (ep e):=by
 refine .agg _ _ rfl (fun i hi=>?_) fun i p hp=>?_
 ·match i,hi with
  | 0,_=>rfl
  | 1,_=>rfl
  | 2,_=>rfl
 ·match i,hp with
  | 0,hp=>cases hp;exact .v _
  | 1,hp=>cases hp;exact .v _
  | 2,hp=>cases hp;exact hd
theorem zaa {C:Nat->Nat->Prop} {w:World} {n0:Nat} {e:En} {ah:Option Addr} {ch:Nat} (hE:zO e) (hl:e.holes.length<=10000) (hr:Dat C w (.slice ah e.holes.length ch) (rg e.holes)) (hC:∀ b o,C b o->b<n0) (hn:n0<=w.heap.size) (hG:GL C w) :
 Calls Tryz.prog 85 #[.agg #[.int .u64 e.rep,.int .u64 e.max,.slice ah e.holes.length ch]] w fun e' w'=>∃ ad cap,e'=.returned (.slice ad (kn e).length cap)/\Below w.heap.size w w'/\Dat (fun b o=>C b o\/(w.heap.size<=b/\b<w'.heap.size)) w' (.slice ad (kn e).length cap) (rg (kn e)):=by
 refine((XZ e hE (by omega)).2 C w _ hG (fun b o h=>Nat.lt_of_lt_of_le (hC b o h) hn) rfl (fun i p hp=>?_)).mono ?_
 ·match i,hp with
  | 0,hp=>cases hp;exact zeI hr
  | i+1,hp=>simp at hp
 ·rintro e' w' ⟨v,D',rfl,hb,q1,q2,q3,hd,_⟩
  have hd':Dat D' w' v (.sl ((kn e).map Q2) .sh):=hd
  obtain⟨ad,cap,sz,b,off,f,e1,_⟩:=(Rel.dat (ρ:=fun _=>0) (nb:=0) hd').inv_sl
  rw [List.length_map] at e1
  subst e1
  exact⟨ad,cap,rfl,hb,hd.mono (fun b o h=>(q2 b o h).imp id fun h'=>⟨h',q3 b o h⟩) fun _ _ _ _ h=>h⟩
theorem zW {w:World} {g:Nat} {cs:Array Value} {t:TypeId} (h:w.heap[g]? = some (.cells cs t (0,0))) (i:Nat) (v:Value) (hv:cs[i]? = some v):w.cell? ⟨g,i,none⟩=some v/\w.frozen? ⟨g,i,none⟩=false:=by
 constructor
 ·simp [World.cell?,h,hv]
 ·simp [World.frozen?,h]
theorem zmT:(fun r=>zT [] r)=fun _=>[]:=rfl
theorem Qm {C:Nat->Nat->Prop} {w wr w3 w5:World} {D:DV} {dom:List Nat} {f0 f1:Nat->List Iv} {e:En} {s0 s1 v:Value} {o1 o2:Obj} (hC:∀ b o,C b o->b<w.heap.size) (hpd:PairD C wr w.heap.size D dom f0 f1) (he:D.atKey (kR e.rep) (.held zP)=.held (.agg #[s0,s1]))
 (hB:Below w.heap.size w wr) (hlt:w.heap.size<wr.heap.size) (hb3:Below ((wr.alloc o1).alloc o2).heap.size ((wr.alloc o1).alloc o2) w3) (hd:Dat (fun b o=>C b o\/(((wr.alloc o1).alloc o2).heap.size<=b/\b<w3.heap.size)) w3 v (rg (kn e))) (j:Nat)
 (hg:(w3.setCell ⟨wr.heap.size+1,j,none⟩ v).grownBy w5 (some w.heap.size)) :
 PairD C w5 w.heap.size (D.put (kR e.rep) (.held (.agg #[v,s1]))) (dom++[e.rep]) (fun r=>if r=e.rep then kn e else f0 r) f1 /\
 PairD C w5 w.heap.size (D.put (kR e.rep) (.held (.agg #[s0,v]))) (dom++[e.rep]) f0 (fun r=>if r=e.rep then kn e else f1 r)/\Below w.heap.size w w5:=by
 have hs:((wr.alloc o1).alloc o2).heap.size=wr.heap.size+2:=by simp
 have h3:wr.heap.size+2<=w3.heap.size:=hs ▸ hb3.size
 have hblk:∀ k,k<wr.heap.size->(w3.setCell ⟨wr.heap.size+1,j,none⟩ v).heap[k]? = wr.heap[k]?:=fun k hk=>by
  rw [Below.heap_setCell _ _ _ _ (by show k≠wr.heap.size+1;omega),hb3.block k (by omega),Below.heap_alloc _ _ _ (by simp;omega),Below.heap_alloc _ _ _ hk]
 have p4:PairD C (w3.setCell ⟨wr.heap.size+1,j,none⟩ v) w.heap.size D dom f0 f1:=hpd.mono hC (by simp;omega) fun k hk _=>hblk k hk
 have d4:Dat (DL C w.heap.size (w3.setCell ⟨wr.heap.size+1,j,none⟩ v)) (w3.setCell ⟨wr.heap.size+1,j,none⟩ v) v (rg (kn e)):=by
  refine hd.mono (fun b o h=>h.imp id fun h=>⟨by omega,?_⟩) fun b o x h hx=>?_
  ·show b<(w3.setCell ⟨wr.heap.size+1,j,none⟩ v).heap.size
   simp
   omega
  ·refine(World.cell?_of_block (a:=⟨b,o,none⟩) (Below.heap_setCell _ _ _ _ ?_)).trans hx
   show b≠wr.heap.size+1
   rcases h with h | h
   ·have:=hC b o h
    omega
   ·omega
 have m5:∀ {D:DV} {dom:List Nat} {f0 f1:Nat->List Iv},PairD C (w3.setCell ⟨wr.heap.size+1,j,none⟩ v) w.heap.size D dom f0 f1->PairD C w5 w.heap.size D dom f0 f1:=fun h=>h.mono hC hg.size fun k hk hne=>hg.block k hk (by simpa using hne)
 refine⟨m5 (p4.put0 d4 he),m5 (p4.put1 d4 he),?_⟩
 have b4:Below w.heap.size w (w3.setCell ⟨wr.heap.size+1,j,none⟩ v):=by
  refine Below.setCell ?_ (by show w.heap.size<=wr.heap.size+1;omega) _
  refine Below.trans ((hB.alloc hB.size o1).alloc (by simp;omega) o2) (hb3.mono (by omega))
 exact b4.grown hg b4.size fun j hj=>by cases hj;exact Nat.le_refl _
theorem J4 (C:Nat->Nat->Prop) (a b:List En) (va vb:Value) (w:World) (ha:SmV a) (hb:SmV b) (ra:RdF C w.heap.size w va a) (rb:RdF C w.heap.size w vb b) (hC:∀ b o,C b o->b<w.heap.size) (hG:GL C w) :
 Calls Tryz.prog 159 #[va,vb] w fun e w'=>e=.returned (.map (some w.heap.size))/\Below w.heap.size w w'/\∃ D,w'.ownsMap Tryz.prog 24 rV w.heap.size (a.length+b.length) D/\PairD C w' w.heap.size D (zM a++zM b) (zT a) (zT b):=by
 have hmm:=@run_makeMap Tryz.prog
 have RA:=Lib.hid ra
 have RB:=Lib.hid rb
 obtain⟨aa,ca,rfl,hac,ham,_⟩:=ra
 obtain⟨ab,cb,rfl,hbc,hbm,_⟩:=rb
 unfold maxLen at ham hbm
 have i0:=zkt aa ab a.length b.length ca cb
 have i1:=zku aa ab a.length b.length ca cb
 go_enter Tryz.func159,Tryz.ntmps159
 go_wp2_with fail
 go_loopg [15] 2 (fun g x wr=>∃ D,((g=2/\x=.int .i64 0/\wr.ownsMap Tryz.prog 24 rV w.heap.size 0 D/\PairD C wr w.heap.size D [] (fun _=>[]) (fun _=>[])) \/
  (g=1/\x=.int .i64 1/\wr.ownsMap Tryz.prog 24 rV w.heap.size a.length D/\PairD C wr w.heap.size D (zM a) (zT a) (fun _=>[])) \/
  (g=0/\x=.int .i64 2/\wr.ownsMap Tryz.prog 24 rV w.heap.size (a.length+b.length) D/\PairD C wr w.heap.size D (zM a++zM b) (zT a) (zT b)))/\Below w.heap.size w wr)
 case atStart=>exact⟨.map [],.inl ⟨rfl,rfl,World.ownsMap_made _ _ _ _,PairD.start _ _ _⟩,(Below.refl _ _).alloc (Nat.le_refl _) _⟩
 case round=>
  obtain⟨D,hcase,hB⟩:=hrel
  obtain⟨wo,hwo⟩:∃ wo,wo=wr:=⟨_,rfl⟩
  subst hwo
  have HB:=Lib.hid hB
  clear hB
  rcases hcase with⟨rfl,rfl,hown,hpd⟩ | ⟨rfl,rfl,hown,hpd⟩ | ⟨rfl,rfl,hown,hpd⟩
  ·have HO:=Lib.hid hown
   have HP:=Lib.hid hpd
   clear hown hpd
   go_wp2_with fail
   go_loopg [21] a.length (fun g x wr=>∃ k D,k<=a.length/\g=a.length - k/\x=.int .i64 k/\wr.ownsMap Tryz.prog 24 rV w.heap.size (0+k) D/\PairD C wr w.heap.size D (zM (a.take k)) (zT (a.take k)) (fun _=>[])/\Below w.heap.size w wr/\w.heap.size<wr.heap.size)
   case atStart=>exact⟨0,D,Nat.zero_le _,rfl,rfl,HO.out,HP.out,HB.out,HO.out.lt⟩
   case round=>
    obtain⟨k,D',hk,rfl,rfl,hownk,hpk,hBk,hltk⟩:=hrel
    clear HO HP HB
    by_cases hlt:k<a.length
    ·have HO:=Lib.hid hownk
     have HP:=Lib.hid hpk
     have HB:=Lib.hid hBk
     obtain⟨a',cap',hav,_,_,hcl⟩:=RdF.keep hC RA.out fun j hj=>hBk.block j hj
     obtain⟨bb,off,hab,_,hbn,hcel⟩:=hcl (by intro e;subst e;simp at hlt)
     obtain⟨rfl,_,rfl⟩:aa=a'/\a.length=a.length/\ca=cap':=by simpa using hav
     subst hab
     obtain⟨c0,c1,⟨hv,c2,hvr⟩,hr1,hr2⟩:=hcel k hlt
     have HE:Hid (∃ e,e=a[k]):=⟨_,rfl⟩
     obtain⟨e,he⟩:=HE.out
     have hE:zO e/\e.holes.length<=10000:=by rw [he];exact⟨ha.1.1 _ (List.getElem_mem hlt),ha.2.2 _ (List.getElem_mem hlt)⟩
     have hT:=Vj ha.1 hlt
     have hR:zM (a.take (k+1))=zM (a.take k)++[e.rep]:=by unfold zM;rw [List.take_succ_eq_append_getElem hlt,he,List.map_append];rfl
     rw [<-he] at c0 c1 hvr hr1 hr2 hT
     have HT:=Lib.hid hT
     have HR:=Lib.hid hR
     clear hcl hcel he HE hav hownk hpk hBk hT hR
     obtain⟨s0,s1,hat,hd0,hd1⟩:=(HP.out.2 e.rep).2
     obtain⟨a0,n0,rfl⟩:=zK hd0
     obtain⟨a1,n1,rfl⟩:=zK hd1
     clear hd0 hd1
     have HA:=Lib.hid hat
     have hhl:e.holes.length<=maxLen:=by have:=hE.2;unfold maxLen;omega
     obtain⟨ah,ch,rfl⟩:=zK hvr
     have HH:=Lib.hid hvr
     clear hvr
     have hlk:=Qf (HO.out.alloc (.cells #[.int .u64 e.rep,.int .u64 e.max,.slice ah e.holes.length ch] 38)) hr1 HA.out
     have hkn:=zaa (w:=(wr.alloc (.cells #[.int .u64 e.rep,.int .u64 e.max,.slice ah e.holes.length ch] 38)).alloc (.cells #[.slice a0 (zT (a.take k) e.rep).length n0,.slice a1 ([]:List Iv).length n1] 200)) hE.1 hE.2
      (HH.out.mono (fun _ _ h=>h) fun j o x hj hx=>(World.cell?_of_block (a:=⟨j,o,none⟩) (by have hj':=hC j o hj;rw [Below.heap_alloc _ _ _ (by simp;omega),Below.heap_alloc _ _ _ (by show j<_;omega)])).trans hx) hC (by simp;omega)
      (hG.mono (fun _ _ h=>h) fun j o x hj hx=>(World.cell?_of_block (a:=⟨j,o,none⟩) (by have hj':=hC j o hj;rw [Below.heap_alloc _ _ _ (by simp;omega),Below.heap_alloc _ _ _ (by show j<_;omega),HB.out.block j (hC j o hj)])).trans hx)
     have HK:=Lib.hid hkn
     clear hat hkn
     have HG:=Lib.hid hG
     clear hG
     have tokA:True:=trivial
     have tokB:True:=trivial
     go_wp2_with (first
      | (go_at_call 85;have _t:=tokA;refine HK.out.mono ?_;rintro e' w3 ⟨ad,cap,rfl,hb3,hd3⟩
         have hx9:w3.heap[wr.heap.size]? = some (.cells #[.int .u64 e.rep,.int .u64 e.max,.slice ah e.holes.length ch] 38 (0,0)):=by rw [hb3.block _ (by simp;omega),Below.heap_alloc _ _ _ (by simp)];exact World.alloc_heap_new wr _
         have hx10:w3.heap[wr.heap.size+1]? = some (.cells #[.slice a0 (zT (a.take k) e.rep).length n0,.slice a1 ([]:List Iv).length n1] 200 (0,0)):=by rw [hb3.block _ (by simp)];have:=World.alloc_heap_new (wr.alloc (.cells #[.int .u64 e.rep,.int .u64 e.max,.slice ah e.holes.length ch] 38)) (.cells #[.slice a0 (zT (a.take k) e.rep).length n0,.slice a1 ([]:List Iv).length n1] 200);rwa [World.size_alloc] at this
         have hmb:w3.heap[w.heap.size]? = wr.heap[w.heap.size]?:=by rw [hb3.block _ (by simp;omega),Below.heap_alloc _ _ _ (by simp;omega),Below.heap_alloc _ _ _ (by omega)]
         have f1:=(zW hx9 0 _ rfl).1
         have f2:=(zW hx10 0 _ rfl).1
         have f3:=(zW hx10 0 _ rfl).2
         have f4:=(zW hx10 1 _ rfl).1
         have HO3:=Lib.hid (((yg HO.out hmb).setCell (a:=⟨wr.heap.size+1,0,none⟩) (by show w.heap.size≠wr.heap.size+1;omega) (.slice ad (kn e).length cap)))
         have HB3:=Lib.hid hb3
         have HD3:=Lib.hid hd3
         clear hx9 hx10 hmb hb3 hd3 tokA)
      | (at_mapUpdate;have _t:=tokB;refine wpList_mapUpdate_own _ rfl _ _ _ 195 rfl 24 200 vF Tryz.underlying195 rV w.heap.size (0+k) D' rfl HO3.out (by have:=ha.2.1;unfold maxLen;omega) _ _ (kR e.rep) rfl rfl (Zq hr1) _ [] rfl ?_;intro w5 hown5 hgrow5;clear tokB;have HO5:=Lib.hid hown5;have HG5:=Lib.hid hgrow5;clear hown5 hgrow5;dsimp only [Act.put])
      | go_in)
     obtain⟨p1,p2,p3⟩:=Qm hC HP.out HA.out HB.out hltk HB3.out HD3.out 0 HG5.out
     have h5:w.heap.size<w5.heap.size:=HO5.out.lt
     go_roundg (a.length - (k+1))
     case measure=>omega
     case rel=>exact⟨k+1,_,hlt,rfl,by simp,HO5.out,by rw [HR.out,HT.out];exact p1,p3,h5⟩
    ·have hke:k=a.length:=by omega
     subst hke
     rw [List.take_length] at hpk
     have HO:=Lib.hid hownk
     have HP:=Lib.hid hpk
     have HB:=Lib.hid hBk
     clear hownk hpk hBk
     go_wp2_with fail
     go_roundg 1
     case measure=>omega
     case rel=>exact⟨D',.inr (.inl ⟨rfl,rfl,by have:=HO.out;simpa using this,HP.out⟩),HB.out⟩
  ·have HO:=Lib.hid hown
   have HP:=Lib.hid hpd
   clear hown hpd
   go_wp2_with fail
   go_loopg [21] b.length (fun g x wr=>∃ k D,k<=b.length/\g=b.length - k/\x=.int .i64 k/\wr.ownsMap Tryz.prog 24 rV w.heap.size (a.length+k) D/\PairD C wr w.heap.size D (zM a++zM (b.take k)) (zT a) (zT (b.take k))/\Below w.heap.size w wr/\w.heap.size<wr.heap.size)
   case atStart=>exact⟨0,D,Nat.zero_le _,rfl,rfl,HO.out.mono (by omega),(by have:=HP.out;simpa [zM,zmT] using this),HB.out,HO.out.lt⟩
   case round=>
    obtain⟨k,D',hk,rfl,rfl,hownk,hpk,hBk,hltk⟩:=hrel
    clear HO HP HB
    by_cases hlt:k<b.length
    ·have HO:=Lib.hid hownk
     have HP:=Lib.hid hpk
     have HB:=Lib.hid hBk
     obtain⟨a',cap',hav,_,_,hcl⟩:=RdF.keep hC RB.out fun j hj=>hBk.block j hj
     obtain⟨bb,off,hab,_,hbn,hcel⟩:=hcl (by intro e;subst e;simp at hlt)
     obtain⟨rfl,_,rfl⟩:ab=a'/\b.length=b.length/\cb=cap':=by simpa using hav
     subst hab
     obtain⟨c0,c1,⟨hv,c2,hvr⟩,hr1,hr2⟩:=hcel k hlt
     have HE:Hid (∃ e,e=b[k]):=⟨_,rfl⟩
     obtain⟨e,he⟩:=HE.out
     have hE:zO e/\e.holes.length<=10000:=by rw [he];exact⟨hb.1.1 _ (List.getElem_mem hlt),hb.2.2 _ (List.getElem_mem hlt)⟩
     have hT:=Vj hb.1 hlt
     have hR:zM (b.take (k+1))=zM (b.take k)++[e.rep]:=by unfold zM;rw [List.take_succ_eq_append_getElem hlt,he,List.map_append];rfl
     rw [<-he] at c0 c1 hvr hr1 hr2 hT
     have HT:=Lib.hid hT
     have HR:=Lib.hid hR
     clear hcl hcel he HE hav hownk hpk hBk hT hR
     obtain⟨s0,s1,hat,hd0,hd1⟩:=(HP.out.2 e.rep).2
     obtain⟨a0,n0,rfl⟩:=zK hd0
     obtain⟨a1,n1,rfl⟩:=zK hd1
     clear hd0 hd1
     have HA:=Lib.hid hat
     have hhl:e.holes.length<=maxLen:=by have:=hE.2;unfold maxLen;omega
     obtain⟨ah,ch,rfl⟩:=zK hvr
     have HH:=Lib.hid hvr
     clear hvr
     have hlk:=Qf (HO.out.alloc (.cells #[.int .u64 e.rep,.int .u64 e.max,.slice ah e.holes.length ch] 38)) hr1 HA.out
     have hkn:=zaa (w:=(wr.alloc (.cells #[.int .u64 e.rep,.int .u64 e.max,.slice ah e.holes.length ch] 38)).alloc (.cells #[.slice a0 (zT a e.rep).length n0,.slice a1 (zT (b.take k) e.rep).length n1] 200)) hE.1 hE.2
      (HH.out.mono (fun _ _ h=>h) fun j o x hj hx=>(World.cell?_of_block (a:=⟨j,o,none⟩) (by have hj':=hC j o hj;rw [Below.heap_alloc _ _ _ (by simp;omega),Below.heap_alloc _ _ _ (by show j<_;omega)])).trans hx) hC (by simp;omega)
      (hG.mono (fun _ _ h=>h) fun j o x hj hx=>(World.cell?_of_block (a:=⟨j,o,none⟩) (by have hj':=hC j o hj;rw [Below.heap_alloc _ _ _ (by simp;omega),Below.heap_alloc _ _ _ (by show j<_;omega),HB.out.block j (hC j o hj)])).trans hx)
     have HK:=Lib.hid hkn
     clear hat hkn
     have HG:=Lib.hid hG
     clear hG
     have tokA:True:=trivial
     have tokB:True:=trivial
     go_wp2_with (first
      | (go_at_call 85;have _t:=tokA;refine HK.out.mono ?_;rintro e' w3 ⟨ad,cap,rfl,hb3,hd3⟩
         have hx9:w3.heap[wr.heap.size]? = some (.cells #[.int .u64 e.rep,.int .u64 e.max,.slice ah e.holes.length ch] 38 (0,0)):=by rw [hb3.block _ (by simp;omega),Below.heap_alloc _ _ _ (by simp)];exact World.alloc_heap_new wr _
         have hx10:w3.heap[wr.heap.size+1]? = some (.cells #[.slice a0 (zT a e.rep).length n0,.slice a1 (zT (b.take k) e.rep).length n1] 200 (0,0)):=by rw [hb3.block _ (by simp)];have:=World.alloc_heap_new (wr.alloc (.cells #[.int .u64 e.rep,.int .u64 e.max,.slice ah e.holes.length ch] 38)) (.cells #[.slice a0 (zT a e.rep).length n0,.slice a1 (zT (b.take k) e.rep).length n1] 200);rwa [World.size_alloc] at this
         have hmb:w3.heap[w.heap.size]? = wr.heap[w.heap.size]?:=by rw [hb3.block _ (by simp;omega),Below.heap_alloc _ _ _ (by simp;omega),Below.heap_alloc _ _ _ (by omega)]
         have f1:=(zW hx9 0 _ rfl).1
         have f2:=(zW hx10 0 _ rfl).1
         have f3:=(zW hx10 1 _ rfl).2
         have f4:=(zW hx10 1 _ rfl).1
         have HO3:=Lib.hid (((yg HO.out hmb).setCell (a:=⟨wr.heap.size+1,1,none⟩) (by show w.heap.size≠wr.heap.size+1;omega) (.slice ad (kn e).length cap)))
         have HB3:=Lib.hid hb3
         have HD3:=Lib.hid hd3
         clear hx9 hx10 hmb hb3 hd3 tokA)
      | (at_mapUpdate;have _t:=tokB;refine wpList_mapUpdate_own _ rfl _ _ _ 195 rfl 24 200 vF Tryz.underlying195 rV w.heap.size (a.length+k) D' rfl HO3.out (by have:=hb.2.1;have:=ha.2.1;unfold maxLen;omega) _ _ (kR e.rep) rfl rfl (Zq hr1) _ [] rfl ?_;intro w5 hown5 hgrow5;clear tokB;have HO5:=Lib.hid hown5;have HG5:=Lib.hid hgrow5;clear hown5 hgrow5;dsimp only [Act.put])
      | go_in)
     obtain⟨p1,p2,p3⟩:=Qm hC HP.out HA.out HB.out hltk HB3.out HD3.out 1 HG5.out
     have h5:w.heap.size<w5.heap.size:=HO5.out.lt
     go_roundg (b.length - (k+1))
     case measure=>omega
     case rel=>exact⟨k+1,_,hlt,rfl,by simp,HO5.out,by rw [HR.out,HT.out];rw [<-List.append_assoc];exact p2,p3,h5⟩
    ·have hke:k=b.length:=by omega
     subst hke
     rw [List.take_length] at hpk
     have HO:=Lib.hid hownk
     have HP:=Lib.hid hpk
     have HB:=Lib.hid hBk
     clear hownk hpk hBk
     go_wp2_with fail
     go_roundg 0
     case measure=>omega
     case rel=>exact⟨D',.inr (.inr ⟨rfl,rfl,HO.out,HP.out⟩),HB.out⟩
  ·have HO:=Lib.hid hown
   have HP:=Lib.hid hpd
   clear hown hpd
   go_wp2_with fail
   refine bodyPost_ret (results_tmp rfl _ _ _) rfl ?_
   exact⟨rfl,HB.out,D,HO.out,HP.out⟩
end Go.Proofs.YtonhfknjcbakiaaGreatDoor
namespace Go.Proofs.YtonhfknjcbakiaaGreatDoor
open Go.RowKit Go.Lib
attribute [-go_sem] z7
def uV (r:Nat):Value:=.int .u64 (r:Nat)
def OwnU (base:Nat) (w:World) (v:Value) (l:List Nat):Prop:=w.ownsRow base 24 1 v l.length (l.map uV)
def kF {α:Type}:List α->Nat->List α->List α
 | xs,_,[]=>xs
 | xs,o,v::r=>kF (xs.set o v) (o+1) r
theorem jt {α:Type}:∀(vs xs:List α) (o:Nat),o+vs.length<=xs.length->kF xs o vs=xs.take o++vs++xs.drop (o+vs.length)
 | [],xs,o,h=>by simp [kF]
 | v::r,xs,o,h=>by
   simp only [List.length_cons] at h
   rw [kF,jt r (xs.set o v) (o+1) (by rw [List.length_set];omega)]
   rw [List.drop_set_of_lt (by omega),List.take_succ_eq_append_getElem (by rw [List.length_set];omega),List.take_set_of_le (Nat.le_refl _),List.getElem_set_self]
   simp only [List.append_assoc,List.length_cons,List.cons_append,List.nil_append]
   rw [show o+1+r.length=o+(r.length+1) by omega]
theorem jW (w:World) (r:Option Nat):w.grownBy w r:=⟨rfl,rfl,rfl,Nat.le_refl _,fun _ _ _=>rfl⟩
theorem yn {a b c:World} {r:Option Nat} (h:a.grownBy b r) (k:b.grownBy c r):a.grownBy c r:=
 ⟨k.os.trans h.os,k.tape.trans h.tape,k.output.trans h.output,Nat.le_trans h.size k.size,fun i hi hs=>(k.block i (Nat.lt_of_lt_of_le hi h.size) hs).trans (h.block i hi hs)⟩
theorem z9 {base:Nat} {e:TypeId} {size g n cap:Nat}:∀(vs:List Value) (o:Nat) (w:World) (xs:List Value),w.ownsRow base e size (.slice (some ⟨g,0,none⟩) n cap) n xs ->
 (w.setCells g o vs).ownsRow base e size (.slice (some ⟨g,0,none⟩) n cap) n (kF xs o vs)/\w.grownBy (w.setCells g o vs) (some g)
 | [],_,w,xs,h=>⟨h,jW _ _⟩
 | v::r,o,w,xs,h=>by
   obtain⟨h1,h2⟩:=h.stored o v
   obtain⟨h3,h4⟩:=z9 r (o+1) _ _ h1
   exact⟨h3,yn h2 h4⟩
theorem Vf:(Tryz.prog.info? 24).map (fun i=>(i.zero,i.size,i.bytes))=some (some (.int .u64 0),1,8):=by kernel_rfl
theorem QN {l:List Nat}:∀ v ∈ l.map uV,v.oneCell'=true:=fun v hv=>by
 obtain⟨r,_,rfl⟩:=List.mem_map.1 hv
 rfl
theorem OwnU.cases {base:Nat} {w:World} {v:Value} {l:List Nat} (h:OwnU base w v l):(v=.slice none 0 0/\l=[]) \/
 ∃ g cap cur,v=.slice (some ⟨g,0,none⟩) l.length cap/\base<=g/\g<w.heap.size/\w.heap[g]? = some (.cells cur 24 (0,0))/\l.length<=cap/\cap<=maxLen/\cur.size=cap/\cur.toList.take l.length=l.map uV:=by
 rcases h.2 with⟨h1,h2⟩ | ⟨g,cap,cur,h1,h2,h3,h4,h5,h6,h7⟩
 ·exact .inl ⟨h1,List.length_eq_zero_iff.1 h2⟩
 ·exact .inr ⟨g,cap,cur,h1,h2,(Array.getElem?_eq_some_iff.1 h3).1,h3,h4,h5,by omega,by rwa [Nat.mul_one] at h7⟩
theorem zc5 {xs:List Value} {u x:Value} {i:Nat} (hi:i<=xs.length):kF (kF (xs++[u]) (i+1) (xs.drop i)) i [x]=xs.take i++x::xs.drop i:=by
 rw [jt (xs.drop i) _ _ (by simp;omega)]
 have hn:i+1+(xs.drop i).length=xs.length+1:=by simp;omega
 rw [hn,show xs.length+1=(xs++[u]).length by simp,List.drop_length,List.append_nil]
 rw [jt [x] _ _ (by simp;omega)]
 rw [List.take_append_of_le_length (by simp;omega),List.take_take,Nat.min_eq_left (by omega),List.take_append_of_le_length hi]
 have hl:((xs++[u]).take (i+1)).length=i+1:=by simp;omega
 rw [show i+[x].length=i+1 from rfl,List.drop_append,hl,Nat.sub_self,List.drop_zero,show ((xs++[u]).take (i+1)).drop (i+1)=[] from List.drop_eq_nil_of_le (by omega)]
 simp
theorem kG {α:Type} (a b c v:List α) (h:b.length=v.length) {i:Nat} (hi:i=a.length):kF (a++b++c) i v=a++v++c:=by
 subst hi
 rw [jt _ _ _ (by simp;omega),List.append_assoc a b c,List.take_left' rfl,<-List.drop_drop,List.drop_left' rfl,<-h,List.drop_left' rfl]
theorem zc4 {xs:List Value} {u x:Value} {i:Nat} (hi:i<=xs.length):kF (kF (xs.take i++List.replicate (xs.length+1 - i) u) i [x]) (i+1) (xs.drop i)=xs.take i++x::xs.drop i:=by
 have hl:(xs.take i).length=i:=by simp;omega
 have e1:=kG (xs.take i) [u] (List.replicate (xs.length - i) u) [x] rfl hl.symm
 have e2:=kG (xs.take i++[x]) (List.replicate (xs.length - i) u) [] (xs.drop i) (by simp) (i:=i+1) (by simp;omega)
 rw [show xs.length+1 - i=(xs.length - i)+1 by omega,List.replicate_succ,show xs.take i++u::List.replicate (xs.length - i) u=xs.take i++[u]++List.replicate (xs.length - i) u by simp,e1]
 rw [List.append_nil,List.append_nil] at e2
 rw [e2]
 simp
theorem vH {w:World} {vb:Nat} {vt:TypeId} {x:Nat} (hvb:w.heap[vb]? = some (.cells #[uV x] vt (0,0))):∀ j u,[uV x][j]? = some u->w.cell? ((⟨vb,0,none⟩:Addr).add j)=some u:=fun j u hj=>by
 match j,hj with
 | 0,hj=>cases hj;simp [World.cell?,Addr.add,hvb]
 | j+1,hj=>simp at hj
theorem zfr (base vb:Nat) (vt:TypeId) (w:World) (v:Value) (l:List Nat) (x:Nat) (hown:OwnU base w v l) (hvb:w.heap[vb]? = some (.cells #[uV x] vt (0,0))) (hl:l.length<=1099511627776) (hbase:base<=w.heap.size) :
 Calls Tryz.prog 193 #[v,.int .i64 (l.length:Nat),.slice (some ⟨vb,0,none⟩) 1 1] w fun e w'=>∃ v',e=.returned v'/\OwnU base w' v' (l++[x])/\w.grownBy w' v.ownBlock/\(v'.ownBlock=v.ownBlock\/v'.ownBlock=some w.heap.size):=by
 obtain⟨i0,hi0,hz0,hz1,hz2⟩:=info_parts Vf
 have hn:=vH hvb
 have hone:∀ u ∈ [uV x],u.oneCell'=true:=fun u hu=>by simp at hu;subst hu;rfl
 have HO:=Lib.hid hown
 have fin:∀ v' w',w'.ownsRow base 24 1 v' (l.length+1) (l.map uV++[uV x])->OwnU base w' v' (l++[x]):=fun v' w' h=>by
  unfold OwnU
  simpa using h
 rcases hown.cases with⟨rfl,rfl⟩ | ⟨g,cap,cur,rfl,hg1,hg2,hg3,hg4,hg5,hg6,hg7⟩
 ·clear hown
  go_enter Tryz.func193,Tryz.ntmps193
  go_wp2_with (at_builtin;refine wpList_append_own_at _ rfl _ _ 157 rfl base 24 i0 (.int .u64 0) 1 8 Tryz.underlying157 hi0 hz0 hz1 hz2 rfl (by decide) _ _ _ rfl HO.out ⟨vb,0,none⟩ 1 1 [uV x] rfl rfl hn hone (by simp [maxLen]) (by simp) hbase ?_;intro v' w' ho hgr _ hbl)
  go_ret
  exact⟨v',rfl,fin v' w' ho,hgr,hbl⟩
 ·unfold maxLen at hg5
  have hc63:cap<=9223372036854775807:=by omega
  clear hown hg7
  go_enter Tryz.func193,Tryz.ntmps193
  go_wp2_with (at_builtin;refine wpList_append_own_at _ rfl _ _ 157 rfl base 24 i0 (.int .u64 0) 1 8 Tryz.underlying157 hi0 hz0 hz1 hz2 rfl (by decide) _ _ _ rfl HO.out ⟨vb,0,none⟩ 1 1 [uV x] rfl rfl hn hone (by unfold maxLen;omega) (by omega) hbase ?_;intro v' w' ho hgr _ hbl)
  all_goals (go_ret;exact⟨v',rfl,fin v' w' ho,hgr,hbl⟩)
theorem zgG (n:Nat):(Builtin.zeroCells (Value.int .u64 0).cells n).toList=List.replicate n (.int .u64 0):=by
 apply List.ext_getElem
 ·simp [Builtin.zeroCells,Value.cells]
 ·intro i h1 h2
  simp [Builtin.zeroCells,Value.cells,Nat.mod_one]
theorem KX {base:Nat} {w:World} {v:Value} {l:List Nat} {x i:Nat} (hi:i<=l.length) (h:w.ownsRow base 24 1 v (l.length+1) ((l.map uV).take i++uV x::(l.map uV).drop i)):OwnU base w v (l.take i++x::l.drop i):=by
 unfold OwnU
 rw [show (l.take i++x::l.drop i).length=l.length+1 by simp;omega,List.map_append,List.map_cons,List.map_take,List.map_drop]
 exact h
theorem zfs (base vb:Nat) (vt:TypeId) (w:World) (g cap:Nat) (l:List Nat) (x i:Nat) (hi:i<l.length) (hown:OwnU base w (.slice (some ⟨g,0,none⟩) l.length cap) l) (hfull:cap<l.length+1) (hvb:w.heap[vb]? = some (.cells #[uV x] vt (0,0))) (hl:l.length<=1099511627776) (hbase:base<=w.heap.size) :
 Calls Tryz.prog 193 #[.slice (some ⟨g,0,none⟩) l.length cap,.int .i64 (i:Nat),.slice (some ⟨vb,0,none⟩) 1 1] w fun e w'=>∃ v',e=.returned v'/\OwnU base w' v' (l.take i++x::l.drop i)/\w.grownBy w' none/\v'.ownBlock=some w.heap.size:=by
 obtain⟨i0,hi0,hz0,hzs,hzb⟩:=info_parts Vf
 obtain⟨n,hn⟩:∃ n,n=l.length:=⟨_,rfl⟩
 obtain⟨cs,hcs⟩:∃ cs,cs=l.map uV:=⟨_,rfl⟩
 have hcl:cs.length=n:=by rw [hcs,hn,List.length_map]
 have hone:∀ u ∈ cs,u.oneCell'=true:=by rw [hcs];exact QN
 have hnx:=vH hvb
 have hvw:vb<w.heap.size:=(Array.getElem?_eq_some_iff.1 hvb).1
 have hgw:g<w.heap.size:=(hown.lt g rfl).2
 have hnc:n<=cap:=by
  rcases hown.cases with⟨h,_⟩ | ⟨g',cap',_,h,_,_,_,h4,_⟩
  ·cases h
  ·cases h;omega
 have hg:∀ j v,cs[j]? = some v->w.cell? ⟨g,j,none⟩=some v:=fun j v hj=>by
  have:=World.ownsRow.cells hown (g:=g) rfl j v (by rw [<-hcs];exact hj)
  rw [zh,Nat.zero_add] at this
  exact this
 rw [<-hn] at hi hown hfull hl ⊢
 have hkk:(n:Int)+1 - (i:Int)=((n+1 - i:Nat):Int):=by omega
 have hik:i+(n+1 - i)=n+1:=by omega
 have hold:(Builtin.firstCells i0.size i (.slice (some ⟨g,0,none⟩) i cap)).run Tryz.prog w.drew=.ok (cs.take i).toArray w.drew:=by
  rw [hzs]
  refine run_firstCells_some w.drew 1 i ⟨g,0,none⟩ i cap (cs.take i) (by rw [List.length_take];omega) (fun j v hj=>?_)
  rw [List.getElem?_take] at hj
  split at hj
  ·have:=hg j v hj
   rw [zh,Nat.zero_add]
   exact this
  ·cases hj
 have hrz:∀ ty,(Builtin.append_ #[157,3] ty #[.slice (some ⟨g,0,none⟩) i cap,.int .i64 ((n:Int)+1 - (i:Int))]).run Tryz.prog w =
  .ok (.slice (some ⟨w.heap.size,0,none⟩) (n+1) (grownCap w (n+1) cap 24)) (w.drew.alloc (.cells ((cs.take i).toArray++Builtin.zeroCells (Value.int .u64 0).cells (n+1 - i)++Builtin.zeroCells (Value.int .u64 0).cells (grownCap w (n+1) cap 24 - (n+1))) 24)):=fun ty=>by
  have h:=Lib.run_append_grow_zeros w 157 3 ty 24 i0 _ .i64 .i64 Tryz.underlying157 Tryz.underlying3 hi0 hz0 (some ⟨g,0,none⟩) i cap (cs.take i) hold (n+1 - i) (by omega) (by omega) (by omega) (by omega) (by rw [hzb];omega) (by rw [hzb,hik];exact growslice_fits hfull (by omega))
  rw [hik] at h
  rw [hkk]
  exact h
 obtain⟨G,hG⟩:∃ G,G=grownCap w (n+1) cap 24 := ⟨_,rfl⟩
 have hGn:n+1<=G:=by rw [hG];exact grownCap_ge w _ _ _
 have hGm:G<=maxLen:=by rw [hG];exact grownCap_le_maxLen w _ _ _ (by unfold maxLen;omega)
 obtain⟨R,hR⟩:∃ R:Array Value,R=(cs.take i).toArray++Builtin.zeroCells (Value.int .u64 0).cells (n+1 - i)++Builtin.zeroCells (Value.int .u64 0).cells (G - (n+1)):=⟨_,rfl⟩
 rw [<-hG,<-hR] at hrz
 have htl:(cs.take i).length=i:=by rw [List.length_take];omega
 have hRl:R.toList=(cs.take i++List.replicate (cs.length+1 - i) (.int .u64 0))++List.replicate (G - (n+1)) (.int .u64 0):=by
  rw [hR]
  simp only [Array.toList_append,zgG,hcl]
 have hRs:R.size=G:=by
  have:R.toList.length=G:=by rw [hRl];simp;omega
  simpa using this
 obtain⟨W1,hW1⟩:∃ W1,W1=w.drew.alloc (.cells R 24):=⟨_,rfl⟩
 have o1:W1.ownsRow base 24 1 (.slice (some ⟨w.heap.size,0,none⟩) (n+1) G) (n+1) (cs.take i++List.replicate (cs.length+1 - i) (.int .u64 0)):=by
  refine⟨by simp;omega,.inr ⟨w.heap.size,G,R,rfl,hbase,?_,hGn,hGm,by omega,?_⟩⟩
  ·rw [hW1];exact World.alloc_heap_new w.drew _
  ·rw [hRl,List.take_append_of_le_length (by simp;omega),List.take_of_length_le (by simp;omega)]
 obtain⟨o2,g2⟩:=z9 [uV x] i _ _ o1
 obtain⟨o3,g3⟩:=z9 (cs.drop i) (i+1) ((W1.setCells w.heap.size i [uV x]).drew) _ o2
 rw [zc4 (by omega)] at o3
 have g1:w.grownBy W1 none:=by
  rw [hW1]
  exact⟨rfl,rfl,rfl,by simp,fun k hk _=>Below.heap_alloc w.drew _ _ hk⟩
 have gall:w.grownBy (((W1.setCells w.heap.size i [uV x]).drew).setCells w.heap.size (i+1) (cs.drop i)) none:=by
  refine⟨g3.os.trans (g2.os.trans g1.os),g3.tape.trans (g2.tape.trans g1.tape),g3.output.trans (g2.output.trans g1.output),Nat.le_trans g1.size (Nat.le_trans g2.size g3.size),fun k hk _=>?_⟩
  have hk1:k<W1.heap.size:=Nat.lt_of_lt_of_le hk g1.size
  have hne:some k≠some w.heap.size:=fun e=>by cases e;omega
  rw [g3.block k (Nat.lt_of_lt_of_le hk1 g2.size) hne]
  show (W1.setCells w.heap.size i [uV x]).heap[k]? = _
  rw [g2.block k hk1 hne,g1.block k hk (by simp)]
 have OF:=Lib.hid (KX (l:=l) (x:=x) (i:=i) (by omega) (by rw [<-hn,<-hcs];exact o3))
 have GA:=Lib.hid gall
 clear o3 gall o1 o2
 rw [<-hW1] at hrz
 have hN:∀ j,j<n+1->(W1.cell? ⟨w.heap.size,j,none⟩).isSome=true:=fun j hj=>by
  rw [hW1,World.cell?_alloc_at (w:=w.drew) R _ w.heap.size j rfl,Array.getElem?_eq_getElem (by omega)];rfl
 have hNf:∀ j,W1.frozen? ⟨w.heap.size,j,none⟩=false:=fun j=>by rw [hW1];exact World.frozen?_alloc_at (w:=w.drew) R _ w.heap.size j rfl
 have hOb:∀ j v,w.cell? ⟨g,j,none⟩=some v->W1.cell? ⟨g,j,none⟩=some v:=fun j v h=>by rw [hW1,World.cell?_alloc_past (w:=w.drew) _ g j hgw];exact h
 have hOv:∀ j v,w.cell? ⟨vb,j,none⟩=some v->W1.cell? ⟨vb,j,none⟩=some v:=fun j v h=>by rw [hW1,World.cell?_alloc_past (w:=w.drew) _ vb j hvw];exact h
 have hsz:(Tryz.prog.info? 24).map (·.size)=some 1:=by rw [hi0];simp [hzs]
 have hone1:∀ u ∈ [uV x],u.oneCell'=true:=fun u hu=>by simp at hu;subst hu;rfl
 have hcpA:∀(W:World),(∀ y,W.cell? y=W1.cell? y)->(∀ y,W.frozen? y=W1.frozen? y)->∀ ty dc,(Builtin.copy_ #[157,157] ty #[.slice (some ⟨w.heap.size,i,none⟩) (n+1 - i) dc,.slice (some ⟨vb,0,none⟩) 1 1]).run Tryz.prog W=.ok (goInt [uV x].length) (W.setCells w.heap.size i [uV x]):=fun W hWc hWf ty dc=>
  run_copy_cells W _ _ ty 24 w.heap.size i (n+1 - i) dc ⟨vb,0,none⟩ 1 1 [uV x] Tryz.underlying157 hsz (by simp only [List.length_singleton,Nat.min_def];split<;>omega)
   (fun j v hj=>by have:=hnx j v hj;rw [zh] at this;rw [hWc,zh];exact hOv _ v this)
   (fun j hj=>by rw [hWc];simp at hj;exact hN _ (by omega)) (fun j hj=>by rw [hWf];exact hNf _) hone1
 have hdl:(cs.drop i).length=n - i:=by rw [List.length_drop,hcl]
 have hne:g≠w.heap.size:=by omega
 have hcpB:∀(W:World),(∀ y,W.cell? y=(W1.setCells w.heap.size i [uV x]).cell? y)->(∀ y,W.frozen? y=(W1.setCells w.heap.size i [uV x]).frozen? y)->∀ ty dc sc,(Builtin.copy_ #[157,157] ty #[.slice (some ⟨w.heap.size,i+1,none⟩) (n - i) dc,.slice (some ⟨g,i,none⟩) (n - i) sc]).run Tryz.prog W=.ok (goInt (cs.drop i).length) (W.setCells w.heap.size (i+1) (cs.drop i)):=fun W hWc hWf ty dc sc=>
  run_copy_cells W _ _ ty 24 w.heap.size (i+1) (n - i) dc ⟨g,i,none⟩ (n - i) sc (cs.drop i) Tryz.underlying157 hsz (by rw [hdl];simp only [Nat.min_def];split<;>omega)
   (fun j v hj=>by
     rw [hWc,zh,World.cell?_setCells_out _ _ _ _ _ (fun h _=>absurd h hne)]
     exact hOb _ v (hg (i+j) v (by rwa [List.getElem?_drop] at hj)))
   (fun j hj=>by rw [hWc];exact isSome_setCells _ _ _ _ (fun t ht=>hN _ (by simp at ht;omega)) _ (hN _ (by omega)))
   (fun j hj=>by rw [hWf,World.frozen?_setCells];exact hNf _) (fun v hv=>hone v (List.mem_of_mem_drop hv))
 have hF1:∀ y,((W1.setCells w.heap.size i [uV x]).drew).cell? y=(W1.setCells w.heap.size i [uV x]).cell? y:=fun y=>rfl
 have hF2:∀ y,((W1.setCells w.heap.size i [uV x]).drew).frozen? y=(W1.setCells w.heap.size i [uV x]).frozen? y:=fun y=>rfl
 have hz2:¬((i:Int)=(n:Int)):=by omega
 have hz3:(cap:Int)<(n:Int)+1:=by omega
 unfold maxLen at hGm
 have hGi:¬(G=i):=by omega
 have hGim:¬(G=i+1):=by omega
 have hci:¬(cap=i):=by omega
 have hw1:IntKind.i64.wrap ((i:Int)+1)=(i:Int)+1:=by rw [IntKind.wrap_i64];omega
 have hb1:(0:Int)<=(i:Int)+1:=by omega
 have hin:i<=n:=by omega
 have htn:((i:Int)+1).toNat=i+1:=by omega
 have hb3:(i:Int)<=(n:Int):=by omega
 clear hn hkk hik hold hG hRl hR hRs hown hg hN hNf hOb hOv hone hone1 hcl hcs hnx hvb htl hdl g1 g2 g3 hW1
 go_enter Tryz.func193,Tryz.ntmps193
 go_wp2_with (first
  | (at_builtin;refine Lib.wpList_append_run _ rfl _ _ _ _ rfl _ _ rfl rfl _ _ (hrz _) ?_)
  | (at_builtin;refine wpList_copy_runI _ rfl _ _ 157 157 rfl _ _ rfl rfl (hcpA _ (fun _=>rfl) (fun _=>rfl) _ _) ?_)
  | (at_builtin;refine wpList_copy_runI _ rfl _ _ 157 157 rfl _ _ rfl rfl (hcpB _ (fun _=>rfl) (fun _=>rfl) _ _ _) ?_))
 have mixed:Tryz.prog.follows .mixedOrders=true:=by kernel_rfl
 go_region_law_o (refine step_copy_runI rfl _ _ 157 157 rfl (.slice (some ⟨w.heap.size,i+1,none⟩) (n - i) (G - (i+1))) (.slice (some ⟨g,i,none⟩) (n - i) (cap - i)) (by simp [Act.eval,Act.put]) (by simp [Act.eval,Act.put]) (hcpB _ hF1 hF2 _ (G - (i+1)) (cap - i)) ?_)
 go_wp2
 refine bodyPost_ret (results_tmp rfl _ _ _) rfl ?_
 exact⟨_,rfl,OF.out,GA.out,rfl⟩
theorem za8 (base vb:Nat) (vt:TypeId) (w:World) (g cap:Nat) (l:List Nat) (x i:Nat) (hi:i<l.length) (hown:OwnU base w (.slice (some ⟨g,0,none⟩) l.length cap) l) (hroom:l.length+1<=cap) (hvb:w.heap[vb]? = some (.cells #[uV x] vt (0,0))) (hne:vb≠g) (hl:l.length<=1099511627776) :
 Calls Tryz.prog 193 #[.slice (some ⟨g,0,none⟩) l.length cap,.int .i64 (i:Nat),.slice (some ⟨vb,0,none⟩) 1 1] w fun e w'=>∃ v',e=.returned v'/\OwnU base w' v' (l.take i++x::l.drop i)/\w.grownBy w' (some g)/\v'.ownBlock=some g:=by
 obtain⟨i0,hi0,hz0,hzs,hzb⟩:=info_parts Vf
 obtain⟨n,hn⟩:∃ n,n=l.length:=⟨_,rfl⟩
 obtain⟨cs,hcs⟩:∃ cs,cs=l.map uV:=⟨_,rfl⟩
 have hcl:cs.length=n:=by rw [hcs,hn,List.length_map]
 have hone:∀ u ∈ cs,u.oneCell'=true:=by rw [hcs];exact QN
 have hnx:=vH hvb
 obtain⟨cur,hbg,hgb,hc63,hcz,htk⟩:∃ cur,base<=g/\w.heap[g]? = some (.cells cur 24 (0,0))/\cap<=maxLen/\cur.size=cap/\cur.toList.take l.length=l.map uV:=by
  rcases hown.cases with⟨h,_⟩ | ⟨g',cap',cur,h,h1,_,h3,_,h5,h6,h7⟩
  ·cases h
  ·cases h;exact⟨cur,h1,h3,h5,h6,h7⟩
 rw [<-hn,<-hcs] at htk
 rw [<-hn] at hi hown hroom hl ⊢
 have hlt:n<cur.toList.length:=by simp;omega
 obtain⟨u,hu⟩:∃ u,u=cur.toList[n]:=⟨_,rfl⟩
 have o0:w.drew.ownsRow base 24 1 (.slice (some ⟨g,0,none⟩) (n+1) cap) (n+1) (cs++[u]):=by
  refine⟨by simp;omega,.inr ⟨g,cap,cur,rfl,hbg,hgb,hroom,hc63,by omega,?_⟩⟩
  rw [Nat.mul_one,List.take_succ_eq_append_getElem hlt,htk,hu]
 obtain⟨o1,g1⟩:=z9 (cs.drop i) (i+1) _ _ o0
 obtain⟨o2,g2⟩:=z9 [uV x] i _ _ o1
 rw [zc5 (by omega)] at o2
 have g0:w.grownBy w.drew (some g):=⟨rfl,rfl,rfl,Nat.le_refl _,fun _ _ _=>rfl⟩
 have OF:=Lib.hid (KX (l:=l) (x:=x) (i:=i) (by omega) (by rw [<-hn,<-hcs];exact o2))
 have GA:=Lib.hid (yn g0 (yn g1 g2))
 have hcell:∀ j,j<cap->(w.cell? ⟨g,j,none⟩).isSome=true:=fun j hj=>by
  simp [World.cell?,hgb,hcz,hj]
 have hfz:∀ j,w.frozen? ⟨g,j,none⟩=false:=fun j=>by simp [World.frozen?,hgb]
 have hg:∀ j v,cs[j]? = some v->w.cell? ⟨g,j,none⟩=some v:=fun j v hj=>by
  have:=World.ownsRow.cells hown (g:=g) rfl j v (by rw [<-hcs];exact hj)
  rw [zh,Nat.zero_add] at this
  exact this
 have hsa:w.shape? vb=some (vt,1):=by simp [World.shape?,hvb]
 have hsb:w.shape? g=some (24,cap):=by simp [World.shape?,hgb,hcz]
 have hfa:w.frozen? ⟨vb,0,none⟩=false:=by simp [World.frozen?,hvb]
 have hfe:w.frozen? ⟨vb,1,none⟩=false:=by simp [World.frozen?,hvb]
 have hsz:(Tryz.prog.info? 24).map (·.size)=some 1:=by rw [hi0];simp [hzs]
 have hone1:∀ u ∈ [uV x],u.oneCell'=true:=fun u hu=>by simp at hu;subst hu;rfl
 have hov:∀ lb cb,(callFunc 209 #[.slice (some ⟨vb,0,none⟩) 1 1,.slice (some ⟨g,i+1,none⟩) lb cb]).run Tryz.prog w=.ok (.value (.bool false)) w:=fun lb cb=>by
  rw [run_callFunc_extern Tryz.func209 (by kernel_rfl) (by kernel_rfl) (by kernel_rfl) (e:=Extern.SlicesOverlaps.overlaps #[157,157] #[4]) (by kernel_rfl),
   Lib.run_overlaps_apart w 157 4 24 Tryz.underlying157 1 (fun w=>by kernel_rfl) ⟨vb,0,none⟩ ⟨g,i+1,none⟩ 1 1 lb cb hne vt 24 1 cap hsa hsb (by omega) hfa hfe]
  rfl
 have hdl:(cs.drop i).length=n - i:=by rw [List.length_drop,hcl]
 have hcp1:∀ ty dc sc,(Builtin.copy_ #[157,157] ty #[.slice (some ⟨g,i+1,none⟩) (n - i) dc,.slice (some ⟨g,i,none⟩) (n+1 - i) sc]).run Tryz.prog w.drew=.ok (goInt (cs.drop i).length) (w.drew.setCells g (i+1) (cs.drop i)):=fun ty dc sc=>
  run_copy_cells w.drew _ _ ty 24 g (i+1) (n - i) dc ⟨g,i,none⟩ (n+1 - i) sc (cs.drop i) Tryz.underlying157 hsz (by rw [hdl];simp only [Nat.min_def];split<;>omega)
   (fun j v hj=>by rw [zh];exact hg (i+j) v (by rwa [List.getElem?_drop] at hj))
   (fun j hj=>hcell _ (by omega)) (fun j hj=>hfz _) (fun v hv=>hone v (List.mem_of_mem_drop hv))
 obtain⟨W1,hW1⟩:∃ W1,W1=w.drew.setCells g (i+1) (cs.drop i):=⟨_,rfl⟩
 have hsp1:∀ k,k<cap->(W1.cell? ⟨g,k,none⟩).isSome=true:=fun k hk=>by
  rw [hW1]
  exact isSome_setCells g (cs.drop i) (i+1) w.drew (fun j hj=>hcell _ (by rw [hdl] at hj;omega)) k (hcell k hk)
 have hcp2:∀(W:World),(∀ y,W.cell? y=W1.cell? y)->(∀ y,W.frozen? y=W1.frozen? y)->∀ ty dc,(Builtin.copy_ #[157,157] ty #[.slice (some ⟨g,i,none⟩) (n+1 - i) dc,.slice (some ⟨vb,0,none⟩) 1 1]).run Tryz.prog W=.ok (goInt [uV x].length) (W.setCells g i [uV x]):=fun W hWc hWf ty dc=>
  run_copy_cells W _ _ ty 24 g i (n+1 - i) dc ⟨vb,0,none⟩ 1 1 [uV x] Tryz.underlying157 hsz (by simp only [List.length_singleton,Nat.min_def];split<;>omega)
   (fun j v hj=>by
     rw [hWc,hW1,World.cell?_setCells_out g _ _ _ _ (fun h _=>absurd h (by rw [zh];exact hne))]
     exact hnx j v hj)
   (fun j hj=>by rw [hWc];simp at hj;exact hsp1 _ (by omega)) (fun j hj=>by rw [hWf,hW1,World.frozen?_setCells];exact hfz _) hone1
 rw [<-hW1] at hcp1
 have HW1:=Lib.hid hW1
 have hz2:¬((i:Int)=(n:Int)):=by omega
 unfold maxLen at hc63
 have hw1:IntKind.i64.wrap ((i:Int)+1)=(i:Int)+1:=by rw [IntKind.wrap_i64];omega
 have hb1:(0:Int)<=(i:Int)+1:=by omega
 have hin:i<=n:=by omega
 have htn:((i:Int)+1).toNat=i+1:=by omega
 have hb2:¬(cap=i+1):=by omega
 have hb3:(i:Int)<=(n:Int)+1:=by omega
 have hb4:¬(cap=i):=by omega
 clear hn o0 o1 o2 g0 g1 g2 hown hcell hfz hg hsa hsb hfa hfe hsp1 hW1 hdl hone hone1 hnx hcl hcs hvb hgb hcz htk hlt hu
 go_enter Tryz.func193,Tryz.ntmps193
 have hcp1':=fun ty=>hcp1 ty (cap - (i+1)) (cap - i)
 have mixed:Tryz.prog.follows .mixedOrders=true:=by kernel_rfl
 go_wp2_with (simp only [hov])
 go_region_law_o (refine step_copy_runI rfl _ _ 157 157 rfl _ _ (by simp [Act.eval,Act.put]) (by simp [Act.eval,Act.put]) (hcp1 _ _ _) ?_)
 go_wp2_with (first | (at_builtin;refine wpList_copy_runI _ rfl _ _ 157 157 rfl _ _ rfl rfl (hcp2 _ (fun _=>rfl) (fun _=>rfl) _ _) ?_))
 have OF':=OF.out
 have GA':=GA.out
 rw [<-HW1.out] at OF' GA'
 refine bodyPost_ret (results_tmp rfl _ _ _) rfl ?_
 exact⟨_,rfl,OF',GA',rfl⟩
theorem Y9 (base vb:Nat) (vt:TypeId) (w:World) (v:Value) (l:List Nat) (x i:Nat) (hi:i<=l.length) (hown:OwnU base w v l) (hvb:w.heap[vb]? = some (.cells #[uV x] vt (0,0))) (hne:v.ownBlock≠some vb) (hl:l.length<=1099511627776) (hbase:base<=w.heap.size) :
 Calls Tryz.prog 193 #[v,.int .i64 (i:Nat),.slice (some ⟨vb,0,none⟩) 1 1] w fun e w'=>∃ v',e=.returned v'/\OwnU base w' v' (l.take i++x::l.drop i)/\w.grownBy w' v.ownBlock/\(v'.ownBlock=v.ownBlock\/v'.ownBlock=some w.heap.size):=by
 by_cases he:i=l.length
 ·subst he
  rw [List.take_length,List.drop_length]
  exact zfr base vb vt w v l x hown hvb hl hbase
 ·have hlt:i<l.length:=by omega
  rcases hown.cases with⟨_,h0⟩ | ⟨g,cap,cur,rfl,_⟩
  ·subst h0;simp at hlt
  ·by_cases hc:cap<l.length+1
   ·refine(zfs base vb vt w g cap l x i hlt hown hc hvb hl hbase).mono ?_
    rintro e w' ⟨v',rfl,h1,h2,h3⟩
    exact⟨v',rfl,h1,⟨h2.os,h2.tape,h2.output,h2.size,fun k hk _=>h2.block k hk (by simp)⟩,.inr h3⟩
   ·refine(za8 base vb vt w g cap l x i hlt hown (by omega) hvb (fun e=>hne (by rw [e];rfl)) hl).mono ?_
    rintro e w' ⟨v',rfl,h1,h2,h3⟩
    exact⟨v',rfl,h1,h2,.inl h3⟩
end Go.Proofs.YtonhfknjcbakiaaGreatDoor
namespace Go.Proofs.YtonhfknjcbakiaaGreatDoor
open Go.RowKit
def DX (C:Nat->Nat->Prop) (mb:Nat) (w:World) (v:Value):Nat->Nat->Prop:=fun b o=>DL C mb w b o/\v.ownBlock≠some b
def OutE (C:Nat->Nat->Prop) (mb base:Nat) (w:World) (v:Value) (es:List En):Prop:=
 ∃ xs,w.ownsRow base 38 3 v es.length xs/\∀ i (h:i<es.length),xs[i * 3]? = some (uV es[i].rep)/\xs[i * 3+1]? = some (uV es[i].max)/\∃ hv,xs[i * 3+2]? = some hv/\Dat (DX C mb w v) w hv (rg es[i].holes)/\MuI (fun b=>(base<=b/\b<w.heap.size)/\v.ownBlock≠some b) w hv
theorem OutE.start (C:Nat->Nat->Prop) (mb base:Nat) (w:World):OutE C mb base w (.slice none 0 0) []:=⟨[],World.ownsRow_nil _ _ _ _,fun i h=>absurd h (by simp)⟩
theorem OutE.owns {C:Nat->Nat->Prop} {mb base:Nat} {w:World} {v:Value} {es:List En} (h:OutE C mb base w v es):∀ k,v.ownBlock=some k->base<=k/\k<w.heap.size:=by
 obtain⟨xs,h1,_⟩:=h
 exact h1.lt
theorem DX.keep {C:Nat->Nat->Prop} {mb:Nat} {w w':World} {v:Value} {x:Value} {p:PV} (h:Dat (DX C mb w v) w x p) (hs:w.heap.size<=w'.heap.size) (hb:∀ k,k<w.heap.size->v.ownBlock≠some k->w'.heap[k]? = w.heap[k]?):Dat (DX C mb w' v) w' x p:=
 h.mono (fun b o h=>⟨h.1.imp id fun h=>⟨h.1,Nat.lt_of_lt_of_le h.2 hs⟩,h.2⟩) fun b o x h hx=>(World.cell?_of_block (a:=⟨b,o,none⟩) (hb b (World.block_lt_of_cell? w ⟨b,o,none⟩ hx) h.2)).trans hx
theorem OutE.keep {C:Nat->Nat->Prop} {mb base:Nat} {w w':World} {v:Value} {es:List En} (h:OutE C mb base w v es) (hs:w.heap.size<=w'.heap.size) (hb:∀ k,k<w.heap.size->w'.heap[k]? = w.heap[k]?):OutE C mb base w' v es:=by
 obtain⟨xs,h1,h2⟩:=h
 refine⟨xs,⟨h1.1,?_⟩,fun i hi=>?_⟩
 ·rcases h1.2 with h | ⟨g,cap,cur,e,hg,hc,r⟩
  ·exact .inl h
  ·exact .inr ⟨g,cap,cur,e,hg,(hb g (Array.getElem?_eq_some_iff.1 hc).1).trans hc,r⟩
 ·obtain⟨a,b,hv,c,d,m⟩:=h2 i hi
  exact⟨a,b,hv,c,DX.keep d hs fun k hk _=>hb k hk,(m.same fun b _ hb'=>hb b hb').mono fun b h=>⟨⟨h.1.1,Nat.lt_of_lt_of_le h.1.2 hs⟩,h.2⟩⟩
theorem OutE.push {C:Nat->Nat->Prop} {mb base:Nat} {w w':World} {v v':Value} {es:List En} {e:En} {xs:List Value} {hv:Value} (h2:∀ i (h:i<es.length),xs[i * 3]? = some (uV es[i].rep)/\xs[i * 3+1]? = some (uV es[i].max)/\∃ hv,xs[i * 3+2]? = some hv/\Dat (DX C mb w v) w hv (rg es[i].holes)/\MuI (fun b=>(base<=b/\b<w.heap.size)/\v.ownBlock≠some b) w hv)
 (h1:w.ownsRow base 38 3 v es.length xs) (hd:Dat (DX C mb w v) w hv (rg e.holes)) (hm:MuI (fun b=>(base<=b/\b<w.heap.size)/\v.ownBlock≠some b) w hv) (hC:∀ b o,C b o->b<mb) (hmb:mb<w.heap.size) (ho:w'.ownsRow base 38 3 v' (es.length+1) (xs++[uV e.rep,uV e.max,hv])) (hg:w.grownBy w' v.ownBlock) (hv':v'.ownBlock=v.ownBlock\/v'.ownBlock=some w.heap.size) :
 OutE C mb base w' v' (es++[e]):=by
 have key:∀ {x:Value} {p:PV},Dat (DX C mb w v) w x p->Dat (DX C mb w' v') w' x p:=fun {x p} h=>
  h.mono (fun b o h=>⟨h.1.imp id fun h=>⟨h.1,Nat.lt_of_lt_of_le h.2 hg.size⟩,fun e=>by
   rcases hv' with hv' | hv'
   ·exact h.2 (hv'.symm.trans e)
   ·rw [hv'] at e
    cases e
    rcases h.1 with h | h
    ·have:=hC _ _ h;omega
    ·omega⟩) fun b o x h hx=>(World.cell?_of_block (a:=⟨b,o,none⟩) (hg.block b (World.block_lt_of_cell? w ⟨b,o,none⟩ hx) fun e=>h.2 e.symm)).trans hx
 have key2:∀ {x:Value},MuI (fun b=>(base<=b/\b<w.heap.size)/\v.ownBlock≠some b) w x->MuI (fun b=>(base<=b/\b<w'.heap.size)/\v'.ownBlock≠some b) w' x:=fun h=>
  (h.same (w':=w') fun b hb hlt=>hg.block b hlt fun e=>hb.2 e.symm).mono fun b h=>⟨⟨h.1.1,Nat.lt_of_lt_of_le h.1.2 hg.size⟩,fun e=>by
    rcases hv' with hv' | hv'
    ·exact h.2 (hv'.symm.trans e)
    ·rw [hv'] at e
     cases e
     exact absurd h.1.2 (Nat.lt_irrefl _)⟩
 have hl:=h1.1
 refine⟨xs++[uV e.rep,uV e.max,hv],by simpa using ho,fun i hi=>?_⟩
 simp only [List.length_append,List.length_cons,List.length_nil,Nat.zero_add] at hi
 by_cases hlt:i<es.length
 ·obtain⟨a,b,hv,c,d,m⟩:=h2 i hlt
  rw [List.getElem_append_left hlt]
  refine⟨?_,?_,hv,?_,key d,key2 m⟩
  ·rw [List.getElem?_append_left (by omega)];exact a
  ·rw [List.getElem?_append_left (by omega)];exact b
  ·rw [List.getElem?_append_left (by omega)];exact c
 ·obtain rfl:i=es.length:=by omega
  rw [List.getElem_append_right (Nat.le_refl _)]
  simp only [Nat.sub_self,List.getElem_cons_zero]
  refine⟨?_,?_,hv,?_,key hd,key2 hm⟩
  ·rw [List.getElem?_append_right (by omega),show es.length * 3 - xs.length=0 by omega];rfl
  ·rw [List.getElem?_append_right (by omega),show es.length * 3+1 - xs.length=1 by omega];rfl
  ·rw [List.getElem?_append_right (by omega),show es.length * 3+2 - xs.length=2 by omega];rfl
theorem OutE.mu {C:Nat->Nat->Prop} {mb base:Nat} {w:World} {v:Value} {es:List En} (h:OutE C mb base w v es):MuE (base<=·) w v:=by
 obtain⟨xs,h1,h2⟩:=h
 rcases h1.2 with⟨rfl,h0⟩ | ⟨g,cap,cur,rfl,hg,hc,hn,hm,hs,ht⟩
 ·exact⟨0,MuR.nil⟩
 ·refine⟨es.length,some ⟨g,0,none⟩,cap,rfl,hn,hm,fun _=>⟨g,0,rfl,fun j hj=>?_⟩⟩
  have key:∀ i x,xs[i]? = some x->w.cell? ⟨g,i,none⟩=some x/\w.frozen? ⟨g,i,none⟩=false:=fun i x hx=>by
   rw [<-ht] at hx
   have hx':cur[i]? = some x:=by
    rw [List.getElem?_take] at hx
    split at hx
    ·simpa using hx
    ·cases hx
   simp [World.cell?,World.frozen?,hc,hx']
  obtain⟨a,b,hv,c,_,m⟩:=h2 j hj
  simp only [Nat.zero_add]
  exact⟨⟨hg,_,(key _ _ a).1,(key _ _ a).2⟩,⟨hg,_,(key _ _ b).1,(key _ _ b).2⟩,hv,(key _ _ c).1,m.mono fun b h=>h.1.1⟩
theorem Ki {D:Nat->Nat->Prop} {w:World} {v:Value} {l:List Iv} (h:Dat D w v (rg l)):v.oneCell'=true:=by
 obtain⟨ad,cap,rfl⟩:=zK h
 rfl
theorem OutE.dat {C:Nat->Nat->Prop} {mb base:Nat} {w:World} {v:Value} {es:List En} (h:OutE C mb base w v es) (hb:mb<base):Dat (DL C mb w) w v (vp es):=by
 obtain⟨xs,h1,h2⟩:=h
 rcases h1.2 with⟨rfl,h0⟩ | ⟨g,cap,cur,rfl,hg,hc,hn,hm,hs,ht⟩
 ·obtain rfl:=List.length_eq_zero_iff.1 h0
  exact .sl none 0 3 [] .sh 0 0 (fun _=>undef) (by simp) (fun h=>by cases h) (by decide) (fun h=>absurd rfl h) (fun i e h=>by simp at h) (fun j h=>by simp at h) (fun i e j p h=>by simp at h)
 ·have hlt:=(Array.getElem?_eq_some_iff.1 hc).1
  have cells:∀ j x,xs[j]? = some x->w.cell? ⟨g,j,none⟩=some x:=fun j x hx=>by
   have:=h1.cells (g:=g) rfl j x hx
   rw [zh,Nat.zero_add] at this
   exact this
  have hcell:∀ i (h:i<es.length) j p,(ec es[i])[j]? = some p->∃ x,xs[i * 3+j]? = some x/\Dat (DL C mb w) w x p/\x.oneCell'=true:=fun i h j p hp=>by
   obtain⟨a,b,hv,c,d,_⟩:=h2 i h
   match j,hp with
   | 0,hp=>cases hp;exact⟨_,a,.v _,rfl⟩
   | 1,hp=>cases hp;exact⟨_,b,.v _,rfl⟩
   | 2,hp=>cases hp;exact⟨_,c,d.mono (fun _ _ h=>h.1) fun _ _ _ _ h=>h,Ki d⟩
   | j+3,hp=>simp [ec] at hp
  have hmap:∀(i:Nat) (e:List PV),(es.map ec)[i]? = some e->∃ h:i<es.length,e=ec es[i]:=fun i e he=>by
   rw [List.getElem?_map] at he
   obtain⟨x,hx,rfl⟩:=Option.map_eq_some_iff.1 he
   obtain⟨h,rfl⟩:=List.getElem?_eq_some_iff.1 hx
   exact⟨h,rfl⟩
  have hlen:(es.map ec).length=es.length:=List.length_map _
  unfold vp
  rw [<-hlen]
  refine .sl (some ⟨g,0,none⟩) cap 3 (es.map ec) .sh g 0 (fun j=>(xs[j]?).getD undef) (by rw [hlen];exact hn) (fun h=>by cases h) hm (fun _=>rfl) (fun i e he=>?_) (fun j hj=>?_) (fun i e j p he hp=>?_)
  ·obtain⟨h,rfl⟩:=hmap i e he
   rfl
  ·rw [hlen] at hj
   have hi:j / 3<es.length:=by omega
   have h3:j % 3<(ec es[j / 3]).length:=Nat.mod_lt _ (by decide)
   obtain⟨x,hx,_,ho⟩:=hcell (j / 3) hi (j % 3) ((ec es[j / 3])[j % 3]) (List.getElem?_eq_getElem h3)
   rw [show j / 3 * 3+j % 3=j by omega] at hx
   rw [Nat.zero_add]
   refine⟨.inr ⟨by omega,hlt⟩,?_,?_⟩
   ·rw [hx];exact cells j x hx
   ·rw [hx];exact ho
  ·obtain⟨h,rfl⟩:=hmap i e he
   obtain⟨x,hx,hd,_⟩:=hcell i h j p hp
   rw [hx]
   exact hd
end Go.Proofs.YtonhfknjcbakiaaGreatDoor
