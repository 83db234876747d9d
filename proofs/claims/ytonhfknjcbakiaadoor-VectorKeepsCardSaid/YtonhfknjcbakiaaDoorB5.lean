import Derived.Deep.LoopGhost
import Derived.Deep.DeepCutAuto
import Derived.Deep.CutBlock
import Derived.Test.YtonhfknjcbakiaaDoorB3
import Derived.Test.YtonhfknjcbakiaaDoorB4
set_option maxHeartbeats 16000000
set_option linter.unusedVariables false
set_option linter.unusedSimpArgs false
set_option maxRecDepth 100000
namespace Go.Proofs.YtonhfknjcbakiaaDoor
open Go.RowKit
attribute [local go_sem] Oper.semAt_some
def Suf (a a':List Iv) (x:Nat):Prop:=∃ d,a=d++a'/\∀ s ∈ d,s.hi<x
theorem Suf.refl (a:List Iv) (x:Nat):Suf a a x:=⟨[],rfl,fun _ h=>by cases h⟩
theorem Suf.mono {a a':List Iv} {x y:Nat} (h:Suf a a' x) (hy:x<=y):Suf a a' y:=by
 obtain⟨d,h1,h2⟩:=h;exact⟨d,h1,fun s hs=>by have:=h2 s hs;omega⟩
theorem Suf.drop {a a':List Iv} {s:Iv} {x:Nat} (h:Suf a (s::a') x) (hs:s.hi<x):Suf a a' x:=by
 obtain⟨d,h1,h2⟩:=h
 exact⟨d++[s],by simp [h1],fun t ht=>by simp at ht;rcases ht with ht | rfl;exact h2 t ht;exact hs⟩
theorem Suf.nrm {a a':List Iv} {x n:Nat} (ha:NF n a) (h:Suf a a' x):NF n a':=by
 obtain⟨d,rfl,h2⟩:=h
 clear h2
 induction d generalizing n with
 | nil=>exact ha
 | cons s d ih=>exact ih ha.tail
structure PInv (a b:List Iv) (Ba Bb n0:Nat) (w:World) (x:Nat) (a' b':List Iv) (va vb:Value):Prop where
 bxa:Boxed w Ba 30 va
 bxb:Boxed w Bb 30 vb
 ra:RdR 0 n0 w va a'
 rb:RdR 0 n0 w vb b'
 sa:Suf a a' x
 sb:Suf b b' x
theorem PInv.at {a b:List Iv} {Ba Bb n0:Nat} {S:Nat->Prop} {w w':World} {x y:Nat} {a' b':List Iv} {va vb:Value} (h:PInv a b Ba Bb n0 w x a' b' va vb) (hk:Keep S w w') (hn:n0<=w.heap.size) (hs:∀ k,k<n0\/k=Ba\/k=Bb->¬ S k) (hy:x<=y) :
 PInv a b Ba Bb n0 w' y a' b' va vb:=
 ⟨hk.boxed h.bxa (hs _ (.inr (.inl rfl))),hk.boxed h.bxb (hs _ (.inr (.inr rfl))),h.ra.keep (Nat.le_refl _) (Nat.le_refl _) fun b _ h2=>hk.block b (by omega) (hs b (.inl h2)),
  h.rb.keep (Nat.le_refl _) (Nat.le_refl _) fun b _ h2=>hk.block b (by omega) (hs b (.inl h2)),h.sa.mono hy,h.sb.mono hy⟩
theorem RdR.tail {hi:Nat} {w:World} {ad:Option Addr} {n cap:Nat} {s:Iv} {l:List Iv} (h:RdR 0 hi w (.slice ad n cap) (s::l)) :
 ∃ b off,ad=some ⟨b,off,none⟩/\n=l.length+1/\b<hi/\rdIv w b off s/\l.length+1<=cap/\cap<=maxLen/\RdR 0 hi w (.slice (if cap=1 then some ⟨b,off,none⟩ else some ⟨b,off+2,none⟩) l.length (cap - 1)) l:=by
 obtain⟨a,c,hv,h1,h2,h3⟩:=h
 obtain⟨rfl,rfl,rfl⟩:ad=a/\n=(s::l).length/\cap=c:=by simpa using hv
 obtain⟨b,off,rfl,_,hb,hc⟩:=h3 (by simp)
 refine⟨b,off,rfl,rfl,hb,(by have:=hc 0 (by simp);rwa [Nat.zero_mul,Nat.add_zero] at this),by simpa using h1,h2,?_⟩
 refine⟨_,_,rfl,by simp at h1;omega,by omega,fun hne=>?_⟩
 have hl:0<l.length:=List.length_pos_iff.2 hne
 refine⟨b,off+2,by rw [if_neg (by simp at h1;omega)],Nat.zero_le _,hb,fun i hi=>?_⟩
 have:=hc (i+1) (by simp;omega)
 rw [show off+(i+1) * 2=off+2+i * 2 from by omega] at this
 simpa using this
attribute [local go_sem] Oper.semAt_some
def YV (l:List Nat) (x:Nat):Nat:=l.countP fun y=>decide (x<y)
theorem OwnR.last {base:Nat} {w:World} {ad:Option Addr} {n cap:Nat} {o:List Iv} {t:Iv} (h:OwnR base w (.slice ad n cap) (o++[t])) :
 ∃ g,base<=g/\ad=some ⟨g,0,none⟩/\o.length+1<=cap/\cap<=maxLen/\w.cell? ⟨g,o.length * 2,none⟩=some (.int .u64 t.lo)/\w.cell? ⟨g,o.length * 2+1,none⟩=some (.int .u64 t.hi)/\t.lo<zk/\t.hi<zk:=by
 have hb:=h.2 t (by simp)
 have h1:=h.1
 rcases id h1.2 with⟨_,h0⟩ | ⟨g,cap',cur,hv,hg,hh,hn,hc,_⟩
 ·simp at h0
 ·simp only [Value.slice.injEq] at hv
  obtain⟨rfl,rfl,rfl⟩:=hv
  have hf:=vz (o++[t]) o.length (by simp)
  simp only [List.getElem_concat_length] at hf
  refine⟨g,hg,rfl,by simpa using hn,hc,?_,?_,hb⟩
  ·rw [h1.cellAt _ (by simp)];exact hf.1
  ·rw [h1.cellAt _ (by simp;omega)];exact hf.2
attribute [local go_sem] Oper.semAt_some
def zn (p q:Bool):Bool:=p || q
def y5 (p q:Bool):Bool:=p && q
def zm (p q:Bool):Bool:=p && !q
end Go.Proofs.YtonhfknjcbakiaaDoor
namespace Go.Proofs.YtonhfknjcbakiaaDoor
structure En where
 rep:Nat
 max:Nat
 holes:List Iv
deriving DecidableEq
theorem En.ext' {e f:En} (h1:e.rep=f.rep) (h2:e.max=f.max) (h3:e.holes=f.holes):e=f:=by cases e;cases f;simp_all
def zO (e:En):Prop:=Nrm e.holes/\(∀ s ∈ e.holes,s.hi<=e.max)/\e.max<zk/\e.rep<zk
theorem qG {m n:Nat} (h:m<=n) (h':n<zk):Nrm [⟨m,n⟩]:=⟨Nat.zero_le _,h,h',trivial⟩
theorem jl (m n x:Nat):mem [⟨m,n⟩] x=(decide (m<=x) && decide (x<=n)):=by simp [mem]
def kn (e:En):List Iv:=qy zm [⟨0,e.max⟩] e.holes
theorem qT {e:En} (h:zO e):Nrm (kn e):=qH (qG (Nat.zero_le _) h.2.2.1) h.1
theorem vC {e:En} (h:zO e) {x:Nat} (hx:x<zk):mem (kn e) x=(decide (x<=e.max) && !mem e.holes x):=by
 unfold kn
 rw [qj (qG (Nat.zero_le _) h.2.2.1) h.1 hx,jl]
 simp [zm]
def QV (l:List Iv):Nat:=match l.getLast? with
 | some s=>s.hi
 | none=>0
theorem Kr {l:List Iv} (h:0<l.length):l[l.length - 1].hi=QV l:=by
 unfold QV
 rw [List.getLast?_eq_getElem?,List.getElem?_eq_getElem (by omega)]
theorem x9 {l:List Iv} (hl:Nrm l) (h:l≠[]):mem l (QV l)=true/\QV l<zk:=by
 have h':0<l.length:=List.length_pos_iff.2 h
 have:=NF.lo_ge hl l[l.length - 1] (List.getElem_mem _)
 rw [<-Kr h']
 exact⟨qf.2 ⟨_,List.getElem_mem _,this.2.1,Nat.le_refl _⟩,this.2.2⟩
theorem zek {l:List Iv} (hl:Nrm l) {x:Nat} (hx:mem l x=true):x<=QV l:=by
 obtain⟨s,hs,h1,h2⟩:=qf.1 hx
 have hne:l≠[]:=by intro e;subst e;cases hs
 obtain⟨k,t,rfl⟩:=List.eq_nil_or_concat l |>.resolve_left hne
 unfold QV
 rw [List.concat_eq_append] at *
 rw [List.getLast?_concat]
 rcases List.mem_append.1 hs with h | h
 ·have:=hl.last_lt s h
  have:=(NF.lo_ge hl t (by simp)).2.1
  simp only;omega
 ·simp at h;subst h;exact h2
def Qi (r:Nat) (l:List Iv):En × Bool:=if l=[] then (⟨0,0,[]⟩,false) else (⟨r,QV l,qy zm [⟨0,QV l⟩] l⟩,true)
theorem qD {r:Nat} {l:List Iv} (h:l≠[]):Qi r l=(⟨r,QV l,qy zm [⟨0,QV l⟩] l⟩,true):=if_neg h
theorem zaj (r:Nat) (l:List Iv):(Qi r l).2=decide (l≠[]):=by
 unfold Qi
 split
 ·rename_i h;simp [h]
 ·rename_i h;simp [h]
theorem k9 {r:Nat} {l:List Iv} (hr:r<zk) (hl:Nrm l):zO (Qi r l).1:=by
 by_cases h:l=[]
 ·subst h;exact⟨trivial,(fun _ h=>by cases h),xM,xM⟩
 ·rw [qD h]
  have ht:=(x9 hl h).2
  have hn:Nrm (qy zm [⟨0,QV l⟩] l):=qH (qG (Nat.zero_le _) ht) hl
  refine⟨hn,fun s hs=>?_,ht,hr⟩
  have h1:=NF.lo_ge hn s hs
  have h2:mem (qy zm [⟨0,QV l⟩] l) s.hi=true:=qf.2 ⟨s,hs,h1.2.1,Nat.le_refl _⟩
  rw [qj (qG (Nat.zero_le _) ht) hl h1.2.2,jl] at h2
  simp [zm] at h2
  exact h2.1
theorem JO {r:Nat} {l:List Iv} (hr:r<zk) (hl:Nrm l) (h:l≠[]):kn (Qi r l).1=l:=by
 have hR:=k9 hr hl
 refine Nrm.unique (qT hR) hl fun x hx=>?_
 rw [vC hR hx]
 rw [qD h]
 have ht:=(x9 hl h).2
 simp only
 rw [qj (qG (Nat.zero_le _) ht) hl hx,jl]
 simp only [zm]
 by_cases hxt:x<=QV l
 ·simp [hxt]
 ·have:mem l x=false:=by
   cases e:mem l x with
   | false=>rfl
   | true=>exact absurd (zek hl e) hxt
  simp [hxt,this]
def YP (e:En):Prop:=zO e/\∀ s ∈ e.holes,s.hi<e.max
theorem zeO {e:En} (h:YP e):mem e.holes e.max=false:=by
 cases h':mem e.holes e.max with
 | false=>rfl
 | true=>
   obtain⟨s,hs,_,h2⟩:=qf.1 h'
   have:=h.2 s hs
   omega
theorem jO {e:En} (h:YP e):kn e≠[]/\QV (kn e)=e.max:=by
 have hm:mem (kn e) e.max=true:=by rw [vC h.1 h.1.2.2.1,zeO h];simp
 have hne:kn e≠[]:=by intro h';rw [h'] at hm;cases hm
 refine⟨hne,?_⟩
 have h1:=zek (qT h.1) hm
 have h2:=x9 (qT h.1) hne
 rw [vC h.1 h2.2] at h2
 simp at h2
 omega
theorem ZM {e:En} (h:YP e):Qi e.rep (kn e)=(e,true):=by
 obtain⟨h1,h2⟩:=jO h
 rw [qD h1,h2]
 have:qy zm [⟨0,e.max⟩] (kn e)=e.holes:=by
  refine vK (qG (Nat.zero_le _) h.1.2.2.1) (qT h.1) h.1.1 fun x hx=>?_
  rw [vC h.1 hx,jl]
  simp only [zm]
  by_cases hx':x<=e.max
  ·simp [hx']
  ·have:mem e.holes x=false:=by
    cases h':mem e.holes x with
    | false=>rfl
    | true=>
      obtain⟨s,hs,_,h2⟩:=qf.1 h'
      have:=h.1.2.1 s hs
      omega
   simp [hx',this]
 rw [this]
theorem zak {r:Nat} {l:List Iv} (hr:r<zk) (hl:Nrm l) (h:l≠[]):YP (Qi r l).1:=by
 refine⟨k9 hr hl,fun s hs=>?_⟩
 have hR:=k9 hr hl
 have h1:=hR.2.1 s hs
 rcases Nat.lt_or_eq_of_le h1 with h2 | h2
 ·exact h2
 ·have h3:mem (Qi r l).1.holes (Qi r l).1.max=true:=qf.2 ⟨s,hs,by have:=NF.lo_ge hR.1 s hs;omega,by omega⟩
  have h4:=x9 hl h
  have h5:mem (kn (Qi r l).1) (QV l)=true:=by rw [JO hr hl h];exact h4.1
  rw [vC hR h4.2] at h5
  rw [qD h] at h3 h5
  simp only at h3 h5
  rw [h3] at h5
  simp at h5
end Go.Proofs.YtonhfknjcbakiaaDoor
namespace Go.Proofs.YtonhfknjcbakiaaDoor
open Go.RowKit
def rdE (n0:Nat) (w:World) (b o:Nat) (e:En):Prop:=w.cell? ⟨b,o,none⟩=some (.int .u64 e.rep)/\w.cell? ⟨b,o+1,none⟩=some (.int .u64 e.max)/\(∃ hv,w.cell? ⟨b,o+2,none⟩=some hv/\RdR 0 n0 w hv e.holes)/\e.rep<zk/\e.max<zk
def RdV (n0:Nat) (w:World) (v:Value) (l:List En):Prop:=RdSl 3 (rdE n0) 0 n0 w v l
theorem RdV.keep {n0:Nat} {w w':World} {v:Value} {l:List En} (h:RdV n0 w v l) (hb:∀ k,k<n0->w'.heap[k]? = w.heap[k]?):RdV n0 w' v l:=
 RdSl.keep h (Nat.le_refl _) (Nat.le_refl _) fun b o x _ h2 ⟨c0,c1,⟨hv,c2,c3⟩,c4⟩=>
  ⟨(World.cell?_of_block (a:=⟨b,o,none⟩) (hb b h2)).trans c0,(World.cell?_of_block (a:=⟨b,o+1,none⟩) (hb b h2)).trans c1,⟨hv,(World.cell?_of_block (a:=⟨b,o+2,none⟩) (hb b h2)).trans c2,c3.keep (Nat.le_refl _) (Nat.le_refl _) fun b _ h=>hb b h⟩,c4⟩
def zC (e:En):List Nat:=e.rep::e.max::e.holes.length::e.holes.flatMap fun s=>[s.lo,s.hi]
def zv (v:List En):List Nat:=v.length::v.flatMap zC
def PtE (n0 Bv:Nat) (A B:World):Prop:=A.heap.size<=B.heap.size/\∀ k,k<A.heap.size->(k<n0\/k=Bv\/∃ cs f t,A.heap[k]? = some (.cells cs t f)/\(t = 32 \/ t = 34))->B.heap[k]? = A.heap[k]?
theorem RdV.pt {n0 Bv:Nat} {w w':World} {v:Value} {l:List En} (h:RdV n0 w v l) (hp:PtE n0 Bv w w') (hn:n0<=w.heap.size):RdV n0 w' v l:=h.keep fun k hk=>hp.2 k (by omega) (.inl hk)
theorem zko (x y z:Int) (w:World):(Instr.index 74 (.agg #[.int .u64 x,.int .u64 y,.int .u64 z]) (.int .i64 0)).run Tryd.prog w=.ok (.int .u64 x) w:=by kernel_rfl
theorem zkp (x y z:Int) (w:World):(Instr.index 74 (.agg #[.int .u64 x,.int .u64 y,.int .u64 z]) (.int .i64 1)).run Tryd.prog w=.ok (.int .u64 y) w:=by kernel_rfl
theorem zkq (x y z:Int) (w:World):(Instr.index 74 (.agg #[.int .u64 x,.int .u64 y,.int .u64 z]) (.int .i64 2)).run Tryd.prog w=.ok (.int .u64 z) w:=by kernel_rfl
theorem zfR {v:List En} {k:Nat} (h:k<v.length):zv v=(v.length::(v.take k).flatMap zC)++zC v[k]++(v.drop (k+1)).flatMap zC:=by
 unfold zv
 conv=>lhs;rw [<-List.take_append_drop k v,List.drop_eq_getElem_cons h,List.flatMap_append,List.flatMap_cons]
 simp
theorem Vt (v:List En) (va:Value) (Bv n0:Nat) (W0:World) (hv:RdV n0 W0 va v) (hb:Boxed W0 Bv 23 va) (hn0:n0<=W0.heap.size) :
 v7 Tryd.prog 38 #[.pointer (some ⟨Bv,0,none⟩)] (fun x:Nat=>#[.int .u64 x]) (fun _=>False) (PtE n0 Bv) (zv v) W0:=by
 intro l J Jx hJ hJx hY h0
 refine callsIn_wide.2 ?_
 show Calls Tryd.prog 38 #[.func (.yield l) #[] #[],.pointer (some ⟨Bv,0,none⟩)] W0 _
 have HJ:=Lib.hid hJ
 have HJx:=Lib.hid hJx
 have HY:=Lib.hid hY
 have HV:=Lib.hid hv
 clear hJ hJx hY
 have hvl:=hv.len
 obtain⟨av,cap,rfl,hlc,hcm,hcell⟩:=hv
 unfold maxLen at hcm
 have hM:=zw
 have hw0:IntKind.u64.wrap ((v.length:Nat):Int)=(v.length:Int):=ZR (by omega)
 have hc0:=hb.cell
 obtain⟨fn,tmps,assign,body,hy,hR⟩:=HY.out [] v.length W0 h0 ⟨v.flatMap zC,rfl⟩
 dsimp only at hy
 clear hM
 go_enter Tryd.func38,Tryd.ntmps38
 go_upto_region 0 with fail
 refine(wpIn_wide (n:=8)).1 ?_
 gi_wp2
 refine hR.mono ?_
 rintro e w1 (⟨rfl,hJ1,hk1⟩ | ⟨rfl,hJx1⟩)
 ·gi_wp2
  have hb1:Boxed w1 Bv 23 (.slice av v.length cap):=(hk1.2 Bv hb.lt (.inr (.inl rfl))).trans hb
  have HV1:=Lib.hid (HV.out.pt hk1 hn0)
  have hn1:n0<=w1.heap.size:=Nat.le_trans hn0 hk1.1
  have hc1:=hb1.cell
  clear hy hR hc0 hb hb1 h0
  go_wp2_with fail
  go_loopg [17] v.length (fun g x wr=>∃ k:Nat,k<=v.length/\g=v.length - k/\x=.int .i64 k/\J (v.length::(v.take k).flatMap zC) wr/\RdV n0 wr (.slice av v.length cap) v/\n0<=wr.heap.size)
  case atStart=>exact⟨0,Nat.zero_le _,rfl,rfl,by simpa using hJ1,HV1.out,hn1⟩
  case round=>
   obtain⟨k,hk,rfl,rfl,hJk,hVk,hnk⟩:=hrel
   obtain⟨wo,hwo⟩:∃ wo,wo=wr:=⟨_,rfl⟩
   subst hwo
   clear hJ1 HV1 hn1 hk1 hc1 hcell
   by_cases hlt:k<v.length
   ·obtain⟨a',cap',hav,_,_,hcl⟩:=hVk
    obtain⟨b,off,hab,_,hbn,hcel⟩:=hcl (by intro e;subst e;simp at hlt)
    obtain⟨rfl,_,rfl⟩:av=a'/\v.length=v.length/\cap=cap':=by simpa using hav
    subst hab
    obtain⟨c0,c1,⟨hv,c2,hvr⟩,hr1,hr2⟩:=hcel k hlt
    have HVk:Hid (RdV n0 wo (.slice (some ⟨b,off,none⟩) v.length cap) v):=⟨_,_,rfl,hlc,by unfold maxLen;exact hcm,fun _=>⟨b,off,rfl,Nat.zero_le _,hbn,hcel⟩⟩
    have HE:Hid (∃ e,e=v[k]):=⟨_,rfl⟩
    obtain⟨e,he⟩:=HE.out
    rw [<-he] at c0 c1 hvr hr1 hr2
    have HK:=Lib.hid he
    have hhl:=hvr.len
    obtain⟨ah,caph,rfl,hhc,hhm,hhcell⟩:=hvr
    unfold maxLen at hhm
    have hwh:IntKind.u64.wrap ((e.holes.length:Nat):Int)=(e.holes.length:Int):=ZR (by rw [zw];omega)
    have HH:Hid (RdR 0 n0 wo (.slice ah e.holes.length caph) e.holes):=⟨_,_,rfl,hhc,by unfold maxLen;exact hhm,hhcell⟩
    clear hcl hcel he HE hav hhcell
    have HP:Hid (zv v=(v.length::(v.take k).flatMap zC)++zC e++(v.drop (k+1)).flatMap zC):=by show zv v=_;rw [HK.out];exact zfR hlt
    go_wp2_with fail
    go_loopg [30] 3 (fun g x wr=>((g=3/\x=.int .i64 0/\J (v.length::(v.take k).flatMap zC) wr)\/(g=2/\x=.int .i64 1/\J ((v.length::(v.take k).flatMap zC)++[e.rep]) wr)\/(g=1/\x=.int .i64 2/\J ((v.length::(v.take k).flatMap zC)++[e.rep,e.max]) wr)\/(g=0/\x=.int .i64 3/\J ((v.length::(v.take k).flatMap zC)++[e.rep,e.max,e.holes.length]) wr)) /\
     RdV n0 wr (.slice (some ⟨b,off,none⟩) v.length cap) v/\n0<=wr.heap.size/\wr.heap[wo.heap.size]? = some (.cells #[.int .u64 e.rep,.int .u64 e.max,.slice ah e.holes.length caph] 32 (0,0))/\RdR 0 n0 wr (.slice ah e.holes.length caph) e.holes)
    case atStart=>exact⟨.inl ⟨rfl,rfl,HJ.out _ _ _ hJk ((Keep.refl _ _).alloc _)⟩,HVk.out.keep fun j hj=>Below.heap_alloc _ _ _ (by omega),by simp;omega,World.alloc_heap_new _ _,HH.out.keep (Nat.le_refl _) (Nat.le_refl _) fun j _ hj=>Below.heap_alloc _ _ _ (by omega)⟩
    case round=>
     obtain⟨hdis,hVt,hnt,hbt,hRt⟩:=hrel
     clear hJk
     have i0:=zko
     have i1:=zkp
     have i2:=zkq
     rcases hdis with⟨rfl,rfl,hJt⟩ | ⟨rfl,rfl,hJt⟩ | ⟨rfl,rfl,hJt⟩ | ⟨rfl,rfl,hJt⟩
     ·obtain⟨fn,tmps,assign,body,hy,hR⟩:=HY.out ((v.length::(v.take k).flatMap zC)) e.rep wr hJt ⟨e.max::e.holes.length::(e.holes.flatMap fun s=>[s.lo,s.hi])++(v.drop (k+1)).flatMap zC,by rw [HP.out];simp [zC]⟩
      try dsimp only at hy
      go_upto_region 7 with fail
      refine(wpIn_wide (n:=8)).1 ?_
      gi_wp2
      refine hR.mono ?_
      rintro e' w3 (⟨rfl,hJ3,hk3⟩ | ⟨rfl,hJx3⟩)
      ·gi_wp2
       go_wp2
       go_roundg 2
       case measure=>omega
       case rel=>exact⟨.inr (.inl ⟨rfl,rfl,by simpa using hJ3⟩),hVt.pt hk3 hnt,Nat.le_trans hnt hk3.1,(hk3.2 _ (Array.getElem?_eq_some_iff.1 hbt).1 (.inr (.inr ⟨_,_,_,hbt,.inl rfl⟩))).trans hbt,hRt.keep (Nat.le_refl _) (Nat.le_refl _) fun j _ hj=>hk3.2 j (by omega) (.inl hj)⟩
      ·gi_wp2
       go_wp2
       refine bodyPost_ret (results_none rfl _ _ _) rfl ?_
       exact⟨⟨_,rfl⟩,.inr ⟨((v.length::(v.take k).flatMap zC))++[e.rep],⟨e.max::e.holes.length::(e.holes.flatMap fun s=>[s.lo,s.hi])++(v.drop (k+1)).flatMap zC,by rw [HP.out];simp [zC]⟩,hJx3⟩⟩
     ·obtain⟨fn,tmps,assign,body,hy,hR⟩:=HY.out ((v.length::(v.take k).flatMap zC)++[e.rep]) e.max wr hJt ⟨e.holes.length::(e.holes.flatMap fun s=>[s.lo,s.hi])++(v.drop (k+1)).flatMap zC,by rw [HP.out];simp [zC]⟩
      try dsimp only at hy
      go_upto_region 7 with fail
      refine(wpIn_wide (n:=8)).1 ?_
      gi_wp2
      refine hR.mono ?_
      rintro e' w3 (⟨rfl,hJ3,hk3⟩ | ⟨rfl,hJx3⟩)
      ·gi_wp2
       go_wp2
       go_roundg 1
       case measure=>omega
       case rel=>exact⟨.inr (.inr (.inl ⟨rfl,rfl,by simpa using hJ3⟩)),hVt.pt hk3 hnt,Nat.le_trans hnt hk3.1,(hk3.2 _ (Array.getElem?_eq_some_iff.1 hbt).1 (.inr (.inr ⟨_,_,_,hbt,.inl rfl⟩))).trans hbt,hRt.keep (Nat.le_refl _) (Nat.le_refl _) fun j _ hj=>hk3.2 j (by omega) (.inl hj)⟩
      ·gi_wp2
       go_wp2
       refine bodyPost_ret (results_none rfl _ _ _) rfl ?_
       exact⟨⟨_,rfl⟩,.inr ⟨((v.length::(v.take k).flatMap zC)++[e.rep])++[e.max],⟨e.holes.length::(e.holes.flatMap fun s=>[s.lo,s.hi])++(v.drop (k+1)).flatMap zC,by rw [HP.out];simp [zC]⟩,hJx3⟩⟩
     ·obtain⟨fn,tmps,assign,body,hy,hR⟩:=HY.out ((v.length::(v.take k).flatMap zC)++[e.rep,e.max]) e.holes.length wr hJt ⟨(e.holes.flatMap fun s=>[s.lo,s.hi])++(v.drop (k+1)).flatMap zC,by rw [HP.out];simp [zC]⟩
      try dsimp only at hy
      go_upto_region 7 with fail
      refine(wpIn_wide (n:=8)).1 ?_
      gi_wp2
      refine hR.mono ?_
      rintro e' w3 (⟨rfl,hJ3,hk3⟩ | ⟨rfl,hJx3⟩)
      ·gi_wp2
       go_wp2
       go_roundg 0
       case measure=>omega
       case rel=>exact⟨.inr (.inr (.inr (⟨rfl,rfl,by simpa using hJ3⟩))),hVt.pt hk3 hnt,Nat.le_trans hnt hk3.1,(hk3.2 _ (Array.getElem?_eq_some_iff.1 hbt).1 (.inr (.inr ⟨_,_,_,hbt,.inl rfl⟩))).trans hbt,hRt.keep (Nat.le_refl _) (Nat.le_refl _) fun j _ hj=>hk3.2 j (by omega) (.inl hj)⟩
      ·gi_wp2
       go_wp2
       refine bodyPost_ret (results_none rfl _ _ _) rfl ?_
       exact⟨⟨_,rfl⟩,.inr ⟨((v.length::(v.take k).flatMap zC)++[e.rep,e.max])++[e.holes.length],⟨(e.holes.flatMap fun s=>[s.lo,s.hi])++(v.drop (k+1)).flatMap zC,by rw [HP.out];simp [zC]⟩,hJx3⟩⟩
     ·have d0:wr.cell? ⟨wo.heap.size,2,none⟩=some (.slice ah e.holes.length caph):=by simp [World.cell?,hbt]
      go_wp2_with fail
      go_loopg [41] e.holes.length (fun g x wr=>∃ j:Nat,j<=e.holes.length/\g=e.holes.length - j/\x=.int .i64 j/\J (((v.length::(v.take k).flatMap zC)++[e.rep,e.max,e.holes.length])++(e.holes.take j).flatMap fun s=>[s.lo,s.hi]) wr/\RdV n0 wr (.slice (some ⟨b,off,none⟩) v.length cap) v/\n0<=wr.heap.size/\RdR 0 n0 wr (.slice ah e.holes.length caph) e.holes)
      case atStart=>exact⟨0,Nat.zero_le _,rfl,rfl,by simpa using hJt,hVt,hnt,hRt⟩
      case round=>
       obtain⟨j,hj,rfl,rfl,hJj,hVj,hnj,hRj⟩:=hrel
       clear hJt hVt hnt hRt d0 hbt
       obtain⟨wo2,hwo2⟩:∃ wo,wo=wr:=⟨_,rfl⟩
       subst hwo2
       by_cases hjl:j<e.holes.length
       ·obtain⟨ah',caph',hah,_,_,hhc2⟩:=hRj
        obtain⟨bh,offh,hab2,_,hbh,hcel2⟩:=hhc2 (by intro e';rw [e'] at hjl;simp at hjl)
        obtain⟨rfl,rfl⟩:ah=ah'/\caph=caph':=by simpa using hah
        subst hab2
        obtain⟨c3,c4,s1,s2⟩:=hcel2 j hjl
        obtain⟨s,hs⟩:∃ s,s=e.holes[j]:=⟨_,rfl⟩
        rw [<-hs] at c3 c4 s1 s2
        have HS:=Lib.hid hs
        have HRj:Hid (RdR 0 n0 wo2 (.slice (some ⟨bh,offh,none⟩) e.holes.length caph) e.holes):=⟨_,_,rfl,hhc,by unfold maxLen;exact hhm,fun _=>⟨bh,offh,rfl,Nat.zero_le _,hbh,hcel2⟩⟩
        clear hs hhc2 hcel2 hah
        have HVj:=Lib.hid hVj
        clear hVj
        have hJ2:=HJ.out _ _ _ hJj ((Keep.refl _ wo2).alloc (.cells #[.int .u64 s.lo,.int .u64 s.hi] 34))
        have HF:Hid (zv v=((v.length::(v.take k).flatMap zC)++[e.rep,e.max,e.holes.length])++((e.holes.take j).flatMap fun s=>[s.lo,s.hi])++[s.lo,s.hi]++(((e.holes.drop (j+1)).flatMap fun s=>[s.lo,s.hi])++(v.drop (k+1)).flatMap zC)):=by
         show zv v=_
         rw [HP.out]
         unfold zC
         conv=>lhs;rw [<-List.take_append_drop j e.holes,List.drop_eq_getElem_cons hjl,<-HS.out]
         simp
         omega
        obtain⟨fn,tmps,assign,body,hy,hR⟩:=HY.out (((v.length::(v.take k).flatMap zC)++[e.rep,e.max,e.holes.length])++((e.holes.take j).flatMap fun s=>[s.lo,s.hi])) s.lo _ hJ2 ⟨s.hi::(((e.holes.drop (j+1)).flatMap fun s=>[s.lo,s.hi])++(v.drop (k+1)).flatMap zC),by rw [HF.out];simp only [List.append_assoc,List.cons_append,List.nil_append]⟩
        try dsimp only at hy
        go_upto_region 12 with fail
        refine(wpIn_wide (n:=8)).1 ?_
        gi_wp2
        refine hR.mono ?_
        rintro e' w3 (⟨rfl,hJ3,hk3⟩ | ⟨rfl,hJx3⟩)
        ·have hbx:w3.heap[wo2.heap.size]? = some (.cells #[.int .u64 s.lo,.int .u64 s.hi] 34 (0,0)):=(hk3.2 _ (by simp) (.inr (.inr ⟨_,_,_,World.alloc_heap_new _ _,.inr rfl⟩))).trans (World.alloc_heap_new _ _)
         have hd1:w3.cell? ⟨wo2.heap.size,1,none⟩=some (.int .u64 s.hi):=by simp [World.cell?,hbx]
         have hn3:n0<=w3.heap.size:=Nat.le_trans hnj (Nat.le_trans (by simp) hk3.1)
         have HB3:Hid (∀ q,q<n0->w3.heap[q]? = wo2.heap[q]?):=fun q hq=>(hk3.2 q (by simp;omega) (.inl hq)).trans (Below.heap_alloc _ _ _ (by omega))
         obtain⟨fn2,tmps2,assign2,body2,hy2,hR2⟩:=HY.out ((((v.length::(v.take k).flatMap zC)++[e.rep,e.max,e.holes.length])++((e.holes.take j).flatMap fun s=>[s.lo,s.hi]))++[s.lo]) s.hi w3 hJ3 ⟨(((e.holes.drop (j+1)).flatMap fun s=>[s.lo,s.hi])++(v.drop (k+1)).flatMap zC),by rw [HF.out];simp only [List.append_assoc,List.cons_append,List.nil_append]⟩
         try dsimp only at hy2
         clear hy hR
         gi_wp2
         refine hR2.mono ?_
         rintro e2 w4 (⟨rfl,hJ4,hk4⟩ | ⟨rfl,hJx4⟩)
         ·gi_wp2
          go_wp2
          go_roundg (e.holes.length - (j+1))
          case measure=>omega
          case rel=>
           have HB4:∀ q,q<n0->w4.heap[q]? = wo2.heap[q]?:=fun q hq=>(hk4.2 q (by omega) (.inl hq)).trans (HB3.out q hq)
           refine⟨j+1,by omega,rfl,by go_num,?_,HVj.out.keep HB4,Nat.le_trans hn3 hk4.1,HRj.out.keep (Nat.le_refl _) (Nat.le_refl _) fun q _ hq=>HB4 q hq⟩
           rw [List.take_succ_eq_append_getElem hjl,List.flatMap_append,<-HS.out]
           simpa using hJ4
         ·gi_wp2
          go_wp2
          refine bodyPost_ret (results_none rfl _ _ _) rfl ?_
          exact⟨⟨_,rfl⟩,.inr ⟨_,⟨(((e.holes.drop (j+1)).flatMap fun s=>[s.lo,s.hi])++(v.drop (k+1)).flatMap zC),by rw [HF.out];simp only [List.append_assoc,List.cons_append,List.nil_append]⟩,hJx4⟩⟩
        ·gi_wp2
         refine⟨fun f hf=>(by cases hf),?_⟩
         gi_wp2
         go_wp2
         refine bodyPost_ret (results_none rfl _ _ _) rfl ?_
         exact⟨⟨_,rfl⟩,.inr ⟨_,⟨s.hi::(((e.holes.drop (j+1)).flatMap fun s=>[s.lo,s.hi])++(v.drop (k+1)).flatMap zC),by rw [HF.out];simp only [List.append_assoc,List.cons_append,List.nil_append]⟩,hJx3⟩⟩
       ·obtain rfl:j=e.holes.length:=by omega
        go_wp2
        go_roundg (v.length - (k+1))
        case measure=>omega
        case rel=>
         refine⟨k+1,by omega,rfl,by go_num,?_,hVj,hnj⟩
         rw [List.take_succ_eq_append_getElem hlt,List.flatMap_append,<-HK.out]
         simpa [zC] using hJj
   ·obtain rfl:k=v.length:=by omega
    go_wp2
    refine bodyPost_end (results_none rfl _ _ _) rfl ?_
    rw [List.take_of_length_le (Nat.le_refl _)] at hJk
    exact⟨⟨_,rfl⟩,.inl hJk⟩
 ·gi_wp2
  go_wp2
  refine bodyPost_ret (results_none rfl _ _ _) rfl ?_
  exact⟨⟨_,rfl⟩,.inr ⟨[v.length],⟨v.flatMap zC,rfl⟩,hJx1⟩⟩
attribute [local go_sem] Oper.semAt_some
theorem Vu (a:Option Addr) (n c:Nat) (w:World):Calls Tryd.prog 23 #[.slice a n c] w fun e w'=>e=.returned (.func (.func 38) #[] #[.pointer (some ⟨w.heap.size,0,none⟩)])/\w'=w.alloc (.cells #[.slice a n c] 23):=by
 go_enter Tryd.func23,Tryd.ntmps23
 go_wp2
 go_ret
 exact⟨rfl,rfl⟩
def OwnN (base:Nat) (w:World) (v:Value) (xs:List Nat):Prop:=w.ownsRow base 28 1 v xs.length (xs.map fun x=>.int .u64 (x:Nat))
theorem OwnN.nil (base:Nat) (w:World):OwnN base w (.slice none 0 0) []:=World.ownsRow_nil _ _ _ _
theorem OwnN.keep {base:Nat} {S:Nat->Prop} {w w':World} {v:Value} {l:List Nat} (h:OwnN base w v l) (hb:Keep S w w') (hs:∀ g,base<=g->g<w.heap.size->¬ S g):OwnN base w' v l:=
 hb.ownsRow h fun g hg=>hs g (h.lt g hg).1 (h.lt g hg).2
theorem OwnN.mono {base base':Nat} {w:World} {v:Value} {l:List Nat} (h:OwnN base w v l) (hb:base'<=base):OwnN base' w v l:=by
 refine⟨h.1,?_⟩
 rcases h.2 with hn | ⟨g,cap,cur,hv,hg,r⟩
 ·exact .inl hn
 ·exact .inr ⟨g,cap,cur,hv,Nat.le_trans hb hg,r⟩
def SN (n0:Nat) (A B:World):Prop:=(∃ v,Boxed A n0 36 v)/\Keep (fun k=>k=n0\/(n0+4<=k/\∃ cs f,A.heap[k]? = some (.cells cs 28 f))) A B
theorem SN.pt {n0:Nat} {A B:World} (h:SN n0 A B):PtE n0 (n0+1) A B:=by
 obtain⟨⟨v,hv⟩,hk⟩:=h
 refine⟨hk.size,fun k hlt hc=>hk.block k hlt ?_⟩
 rintro(rfl | ⟨h4,cs,f,hcs⟩)
 ·rcases hc with hc | hc | ⟨cs,f,t,hc,ht⟩
  ·omega
  ·omega
  ·have hv':A.heap[k]? = some (.cells #[v] 36 (0,0)):=hv
   rw [hv'] at hc
   cases hc
   rcases ht with ht | ht<;>cases ht
 ·rcases hc with hc | hc | ⟨cs2,f2,t,hc,ht⟩
  ·omega
  ·omega
  ·rw [hcs] at hc
   cases hc
   rcases ht with ht | ht<;>cases ht
theorem Q5 {W w1:World} {n0:Nat} {v v':Value} {xs ys:List Nat} {tmp:Obj}
 (hv:Boxed W n0 36 v) (hrow:OwnN (n0+4) W v xs) (hown':w1.ownsRow (n0+4) 28 1 v' ys.length (ys.map fun x=>.int .u64 (x:Nat))) (hgrow:(W.alloc tmp).grownBy w1 v.ownBlock) :
 Boxed (w1.setCell ⟨n0,0,none⟩ v') n0 36 v'/\OwnN (n0+4) (w1.setCell ⟨n0,0,none⟩ v') v' ys/\SN n0 W (w1.setCell ⟨n0,0,none⟩ v'):=by
 have hte : 36 ≠ 28 := by decide
 obtain⟨h1,h2,h3,h4⟩:=qO hv hte hrow hown' hgrow
 refine⟨h2,h3,⟨v,hv⟩,?_⟩
 refine Keep.setCell (p:=⟨n0,0,none⟩) ?_ (fun _=>.inl rfl) _
 refine((Keep.refl _ W).alloc tmp).grown hgrow fun j ej _=>.inr ⟨(hrow.lt j ej).1,?_⟩
 rcases hrow.2 with⟨rfl,_⟩ | ⟨g,cap,cur,rfl,hg,hh,_⟩
 ·cases ej
 ·have:g=j:=by simpa [Value.ownBlock] using ej
  subst this
  exact⟨_,_,hh⟩
theorem Tryd.infoU:(Tryd.prog.info? 28).map (fun i=>(i.zero,i.size,i.bytes))=some (some (Value.int .u64 0),1,8):=by kernel_rfl
theorem Q4 (v:List En) (va:Value) (w:World) (hv:RdV w.heap.size w va v) (hlen:(zv v).length<=1073741824) :
 Calls Tryd.prog 11 #[va] w fun e w'=>∃ u,e=.returned u/\OwnN w.heap.size w' u (zv v)/\Below w.heap.size w w':=by
 have HV:=Lib.hid hv
 obtain⟨av,cap,rfl,_⟩:=hv
 refine callsIn_wide.1 (callsIn_of_wp_marks (n:=9) Tryd.func11 rfl trivial ?_ rfl)
 simp only [Tryd.ntmps11,List.size_toArray,List.length_cons,List.length_nil,Nat.reduceAdd,Nat.reduceSub,Array.replicate_succ,Array.replicate_zero,List.push_toArray,List.append_toArray,List.nil_append,List.cons_append]
 gi_wp2_with (refine⟨trivial,?_⟩;gi_at_call 23;refine(callsIn_wide.2 (Vu _ _ _ _)).mono ?_;rintro e w' ⟨rfl,rfl⟩)
 obtain⟨W0,hW0⟩:∃ W0,((w.alloc (Obj.cells #[Value.slice none 0 0] 36)).alloc (Obj.cells #[Value.slice av v.length cap] 23))=W0:=⟨_,rfl⟩
 have hsz:W0.heap.size=w.heap.size+2:=by rw [<-hW0];simp
 have b0:Boxed W0 w.heap.size 36 (Value.slice none 0 0):=by rw [<-hW0];exact(Boxed.new w _ _).alloc _
 have b1:Boxed W0 (w.heap.size+1) 23 (Value.slice av v.length cap):=by rw [<-hW0];have:=Boxed.new (w.alloc (Obj.cells #[Value.slice none 0 0] 36)) 23 (Value.slice av v.length cap);rw [World.size_alloc] at this;exact this
 have hB0:Below w.heap.size w W0:=by rw [<-hW0];exact((Below.refl _ _).alloc (Nat.le_refl _) _).alloc (by simp) _
 try simp only [World.size_alloc]
 rw [hW0]
 clear hW0
 refine Xt (w:=W0) 38 #[.pointer (some ⟨w.heap.size+1,0,none⟩)] rfl (enters_of Tryd.func38 (by kernel_rfl) rfl) (fun x:Nat=>#[.int .u64 x]) (fun _=>rfl)
  (fun _=>False) (PtE w.heap.size (w.heap.size+1)) (zv v) ?hit
  (SN w.heap.size) (fun A B h k hk hlt=>h.2.block k hlt (by rintro(e | ⟨e,_⟩)<;>omega)) (fun A B h=>h.pt)
  ?hPt ?hPt0 ⟨id,id⟩
  (fun pre W=>(∃ u,Boxed W w.heap.size 36 u/\OwnN (w.heap.size+4) W u pre)/\Below w.heap.size w W)
  (fun _ _ _=>False) ?hI (fun _ _ _ _ h _=>h) ⟨⟨_,b0,OwnN.nil _ _⟩,hB0⟩
  (fun pre x a' W=>((∃ u,Boxed W w.heap.size 36 u/\OwnN (w.heap.size+4) W u pre)/\Below w.heap.size w W) /\
    a'={ tmps:=#[Value.slice av v.length cap,undef,Value.slice none 0 0,Value.pointer (some ⟨w.heap.size,0,none⟩),.int .u64 (x:Nat),Value.slice av v.length cap,Value.func (Fn.func 38) #[] #[Value.pointer (some ⟨w.heap.size+1,0,none⟩)],.int .u64 (x:Nat),undef,undef,undef,undef,undef],defers:=[] })
  ?hAx ?hassign ?hbody ?hdone (fun _ _ _ _ h _=>h.elim)
 case hit=>
  intro W hk _
  exact Vt v _ (w.heap.size+1) w.heap.size W (RdV.keep HV.out fun k hk2=>((hB0.trans (hk.below (by omega) fun _ _=>id)).block k hk2)) (hk.boxed b1 id) (by have:=hk.size;omega)
 case hPt=>
  rintro A B C ⟨h1,h2⟩ ⟨h3,h4⟩
  refine⟨Nat.le_trans h1 h3,fun k hk hc=>?_⟩
  have e1:=h2 k hk hc
  refine(h4 k (by omega) ?_).trans e1
  rcases hc with hc | hc | ⟨cs,f,t,hc,ht⟩
  ·exact .inl hc
  ·exact .inr (.inl hc)
  ·exact .inr (.inr ⟨cs,f,t,by rw [e1];exact hc,ht⟩)
 case hPt0=>
  rintro A B hk ⟨o,ho⟩
  refine⟨hk.size,fun k hlt hc=>hk.block k hlt ?_⟩
  rintro rfl
  rcases hc with hc | hc | ⟨cs,f,t,hc,ht⟩
  ·omega
  ·omega
  ·rw [ho] at hc;cases hc
 case hI=>
  rintro pre A B ⟨⟨u,h1,h2⟩,h3⟩ hk0
  have hk:Keep (fun k=>k=W0.heap.size\/k=W0.heap.size+1) A B:=hk0.mono fun _ _ h=>h.elim False.elim id
  exact⟨⟨u,hk.boxed h1 (by omega),h2.keep hk (fun g hg _=>by omega)⟩,h3.trans (hk.below h3.size fun k hk=>by omega)⟩
 case hAx=>
  rintro pre x a' A B ⟨⟨⟨u,h1,h2⟩,h3⟩,rfl⟩ hk
  exact⟨⟨⟨u,hk.boxed h1 (by omega),h2.keep hk (fun g hg _=>by omega)⟩,h3.trans (hk.below h3.size fun k hk=>by omega)⟩,rfl⟩
 case hassign=>
  rintro l pre x W hpx hlt ⟨⟨u,h1,h2⟩,h3⟩
  clear hpx
  gi_wp2
  exact⟨⟨⟨u,h1⟩,Keep.refl _ _⟩,⟨⟨u,h1,h2⟩,h3⟩,trivial⟩
 case hbody=>
  rintro l pre x a' W hpx hlt ⟨⟨⟨u,h1,h2⟩,h3⟩,rfl⟩
  have hc:=h1.cell
  have hf:=h1.frozen
  obtain⟨i0,hi0,hz0,hz1,hz2⟩:=info_parts Tryd.infoU
  have hl:pre.length+1<=(zv v).length:=by have:=hpx.length_le;simpa using this
  gi_wp2_with (gi_at_builtin;refine wpListIn_append_own _ rfl _ _ 36 rfl (w.heap.size+4) 28 i0 (.int .u64 0) 1 8 Tryd.underlying36 hi0 hz0 hz1 hz2 rfl (by decide) _ _ _ rfl (h2.alloc _) ⟨W.heap.size,0,none⟩ 1 1 [.int .u64 (x:Nat)] rfl rfl (kw (cs:=#[.int .u64 (x:Nat)]) (t := 28) (fr:=(0,0)) (World.alloc_heap_new W _)) (by simp [Value.oneCell']) (by unfold maxLen;omega) (by omega) (by rw [World.size_alloc];omega) ?_;intro v' w3 hown' hgrow _;obtain⟨g',cap',rfl⟩:=ownsRow_succ hown';obtain⟨q2,q3,q4⟩:=Q5 (ys:=pre++[x]) h1 h2 (by simpa using hown') hgrow;have q1c:=(qO h1 (by decide) h2 hown' hgrow).1.cell;have q1f:=(qO h1 (by decide) h2 hown' hgrow).1.frozen)
  exact⟨q4,⟨_,q2,q3⟩,h3.trans (q4.2.below h3.size fun k hk=>by rintro(e | ⟨e,_⟩)<;>omega)⟩
 case hdone=>
  rintro W ⟨⟨u,h1,h2⟩,h3⟩ hD
  have hc:=h1.cell
  gi_wp2
  refine⟨by simp,.inl ⟨_,_,rfl,run_takeDeferred hD,?_⟩⟩
  have hkD:Keep (fun k=>k=W0.heap.size) W (W.putObj W0.heap.size (.deferred none)):=(Keep.refl (fun k=>k=W0.heap.size) W).putObj (fun _=>rfl) _
  exact⟨_,results_tmp rfl _ _ _,u,rfl,OwnN.mono (h2.keep hkD fun g hg _=>by omega) (by omega),h3.trans (hkD.below h3.size fun k hk=>by omega)⟩
attribute [local go_sem] Oper.semAt_some
end Go.Proofs.YtonhfknjcbakiaaDoor
