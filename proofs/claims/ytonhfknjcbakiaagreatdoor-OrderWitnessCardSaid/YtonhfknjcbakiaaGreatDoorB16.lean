import Derived.Deep.LoopGhost
import Derived.Deep.DeepCutAuto
import Derived.Deep.CutBlock
import Derived.Test.YtonhfknjcbakiaaGreatDoorB15
set_option maxHeartbeats 16000000
set_option linter.unusedVariables false
set_option linter.unusedSimpArgs false
set_option maxRecDepth 100000
namespace Go.Proofs.YtonhfknjcbakiaaGreatDoor
def zT (v:List En) (r:Nat):List Iv:=match v.find? (fun e=>e.rep == r) with
 | some e=>kn e
 | none=>[]
def RightV (v:List En):Prop:=(∀ e ∈ v,zO e)/\v.Pairwise (fun a b=>a.rep<b.rep)
def CanV (v:List En):Prop:=(∀ e ∈ v,YP e)/\v.Pairwise (fun a b=>a.rep<b.rep)
theorem CanV.right {v:List En} (h:CanV v):RightV v:=⟨fun e he=>(h.1 e he).1,h.2⟩
theorem kr (r:Nat):zT [] r=[]:=rfl
theorem qm (e:En) (v:List En) (r:Nat):zT (e::v) r=if e.rep=r then kn e else zT v r:=by
 unfold zT
 by_cases h:e.rep=r
 ·simp [h]
 ·simp [h]
theorem qC {v:List En} {r:Nat} (h:∀ e ∈ v,e.rep≠r):zT v r=[]:=by
 induction v with
 | nil=>rfl
 | cons e v ih=>rw [qm,if_neg (h e (by simp)),ih fun e' h'=>h e' (by simp [h'])]
theorem kq {v:List En} (h:v.Pairwise fun a b=>a.rep<b.rep) {e:En} (he:e ∈ v):zT v e.rep=kn e:=by
 induction v with
 | nil=>cases he
 | cons x v ih=>
   have h':=List.pairwise_cons.1 h
   rw [qm]
   rcases List.mem_cons.1 he with rfl | he'
   ·rw [if_pos rfl]
   ·have:=h'.1 e he'
    rw [if_neg (by omega),ih h'.2 he']
theorem qi {v:List En} (h:RightV v) (r:Nat):Nrm (zT v r):=by
 unfold zT
 split
 ·rename_i e he;exact qT (h.1 e (List.mem_of_find?_eq_some he))
 ·trivial
theorem Zk:∀ {a b:List En},CanV a->CanV b->(∀ r,zT a r=zT b r)->a=b
 | [],[],_,_,_=>rfl
 | [],y::b,_,hb,h=>by
   have:=h y.rep
   rw [kr,qm,if_pos rfl] at this
   exact absurd this.symm (jO (hb.1 y (by simp))).1
 | x::a,[],ha,_,h=>by
   have:=h x.rep
   rw [kr,qm,if_pos rfl] at this
   exact absurd this (jO (ha.1 x (by simp))).1
 | x::a,y::b,ha,hb,h=>by
   have pa:=List.pairwise_cons.1 ha.2
   have pb:=List.pairwise_cons.1 hb.2
   have cx:=ha.1 x (by simp)
   have cy:=hb.1 y (by simp)
   have hr:x.rep=y.rep:=by
    rcases Nat.lt_trichotomy x.rep y.rep with h1 | h1 | h1
    ·have:=h x.rep
     rw [qm,if_pos rfl,qC fun e he=>by rcases List.mem_cons.1 he with rfl | he;omega;have:=pb.1 e he;omega] at this
     exact absurd this (jO cx).1
    ·exact h1
    ·have:=h y.rep
     rw [qm (e:=y),if_pos rfl,qC fun e he=>by rcases List.mem_cons.1 he with rfl | he;omega;have:=pa.1 e he;omega] at this
     exact absurd this.symm (jO cy).1
   have hk:=h x.rep
   rw [qm,qm,if_pos rfl,if_pos hr.symm] at hk
   have e1:=ZM cx
   have e2:=ZM cy
   rw [hk,hr,e2] at e1
   have hxy:x=y:=by injection e1 with e1;exact e1.symm
   subst hxy
   congr 1
   refine Zk ⟨fun e he=>ha.1 e (by simp [he]),pa.2⟩ ⟨fun e he=>hb.1 e (by simp [he]),pb.2⟩ fun r=>?_
   by_cases h1:x.rep=r
   ·rw [qC fun e he=>by have:=pa.1 e he;omega,qC fun e he=>by have:=pb.1 e he;omega]
   ·have:=h r
    rw [qm,qm,if_neg h1,if_neg h1] at this
    exact this
def Xd (f:Bool->Bool->Bool) (a b:List En) (r:Nat):En × Bool:=Qi r (qy f (zT a r) (zT b r))
def vE (f:Bool->Bool->Bool) (a b:List En) (r:Nat):Option En:=if (Xd f a b r).2 then some (Xd f a b r).1 else none
def zM (v:List En):List Nat:=v.map En.rep
noncomputable def ks (f:Bool->Bool->Bool) (a b:List En):List En:=(srt (zM a++zM b)).filterMap (vE f a b)
theorem xz {f:Bool->Bool->Bool} {a b:List En} {r:Nat} {e:En} (h:vE f a b r=some e):qy f (zT a r) (zT b r)≠[]/\e=(Xd f a b r).1/\e.rep=r:=by
 unfold vE Xd at h
 split at h
 ·rename_i h1
  rw [zaj] at h1
  simp at h1
  cases h
  exact⟨h1,rfl,by rw [qD h1]⟩
 ·cases h
theorem zad {f:Bool->Bool->Bool} {a b:List En} {r:Nat} (h:qy f (zT a r) (zT b r)≠[]):vE f a b r=some (Xd f a b r).1:=by
 unfold vE
 rw [if_pos]
 unfold Xd
 rw [zaj];simpa using h
theorem Xr {a b:List En} (ha:RightV a) (hb:RightV b):∀ r ∈ srt (zM a++zM b),r<zk:=fun r hr=>by
 have:=qr.1 hr
 simp only [zM,List.mem_append,List.mem_map] at this
 rcases this with⟨e,he,rfl⟩ | ⟨e,he,rfl⟩
 ·exact(ha.1 e he).2.2.2
 ·exact(hb.1 e he).2.2.2
theorem xj {g:Nat->Option En} (hg:∀ r e,g r=some e->e.rep=r):∀ {l:List Nat},YN l->(l.filterMap g).Pairwise fun a b=>a.rep<b.rep
 | [],_=>List.Pairwise.nil
 | r::l,h=>by
   have h':=List.pairwise_cons.1 h
   rw [List.filterMap_cons]
   cases e:g r with
   | none=>exact xj hg h'.2
   | some x=>
     refine List.pairwise_cons.2 ⟨fun y hy=>?_,xj hg h'.2⟩
     obtain⟨r',hr',e'⟩:=List.mem_filterMap.1 hy
     rw [hg _ _ e,hg _ _ e']
     exact h'.1 r' hr'
theorem Xe (f:Bool->Bool->Bool) {a b:List En} (ha:RightV a) (hb:RightV b):CanV (ks f a b):=by
 refine⟨fun e he=>?_,xj (fun r e h=>(xz h).2.2) (yi _)⟩
 obtain⟨r,hr,e'⟩:=List.mem_filterMap.1 he
 obtain⟨h1,rfl,_⟩:=xz e'
 exact zak (Xr ha hb r hr) (qH (qi ha r) (qi hb r)) h1
theorem zdv {f:Bool->Bool->Bool} (hf:f false false=false):qy f [] []=[]:=
 vK (a:=[]) (b:=[]) trivial trivial trivial fun x hx=>by simp [hf]
theorem JR {f:Bool->Bool->Bool} (hf:f false false=false) {a b:List En} (ha:RightV a) (hb:RightV b) (r:Nat):zT (ks f a b) r=qy f (zT a r) (zT b r):=by
 by_cases h:qy f (zT a r) (zT b r)=[]
 ·rw [h]
  refine qC fun e he hr=>?_
  obtain⟨r',hr',e'⟩:=List.mem_filterMap.1 he
  obtain⟨h1,_,h3⟩:=xz e'
  rw [hr] at h3
  subst h3
  exact h1 h
 ·have hm:r ∈ srt (zM a++zM b):=by
   refine qr.2 (List.mem_append.2 ?_)
   rcases Classical.em (r ∈ zM a) with h1 | h1
   ·exact .inl h1
   ·rcases Classical.em (r ∈ zM b) with h2 | h2
    ·exact .inr h2
    ·refine absurd ?_ h
     rw [qC (v:=a) fun e he hr=>h1 (List.mem_map.2 ⟨e,he,hr⟩),qC (v:=b) fun e he hr=>h2 (List.mem_map.2 ⟨e,he,hr⟩)]
     exact zdv hf
  have he:(Xd f a b r).1 ∈ ks f a b:=List.mem_filterMap.2 ⟨r,hm,zad h⟩
  have h3:(Xd f a b r).1.rep=r:=(xz (zad h)).2.2
  have:=kq (Xe f ha hb).2 he
  rw [h3] at this
  rw [this]
  exact JO (Xr ha hb r hm) (qH (qi ha r) (qi hb r)) h
def QX (e:En):Option En:=if (kP e).2 then some (kP e).1 else none
def zi (v:List En):List En:=v.filterMap QX
theorem v9 {e c:En} (h:QX e=some c):kn e≠[]/\c=(kP e).1/\c.rep=e.rep:=by
 unfold QX kP at h
 split at h
 ·rename_i h1
  rw [zaj] at h1
  simp at h1
  cases h
  exact⟨h1,rfl,by rw [qD h1]⟩
 ·cases h
theorem jN:∀ {v:List En},RightV v->CanV (zi v)
 | [],_=>⟨fun e h=>(by cases h),List.Pairwise.nil⟩
 | x::v,h=>by
   have p:=List.pairwise_cons.1 h.2
   obtain⟨h1,h2⟩:=jN (v:=v) ⟨fun e he=>h.1 e (by simp [he]),p.2⟩
   unfold zi
   rw [List.filterMap_cons]
   cases e:QX x with
   | none=>exact⟨h1,h2⟩
   | some c=>
     obtain⟨k1,rfl,k3⟩:=v9 e
     have hx:=h.1 x (by simp)
     refine⟨fun e he=>?_,List.pairwise_cons.2 ⟨fun y hy=>?_,h2⟩⟩
     ·rcases List.mem_cons.1 he with rfl | he
      ·exact zak hx.2.2.2 (qT hx) k1
      ·exact h1 e he
     ·obtain⟨z,hz,e'⟩:=List.mem_filterMap.1 hy
      obtain⟨_,_,k4⟩:=v9 e'
      rw [k3,k4]
      exact p.1 z hz
theorem ja:∀ {v:List En},RightV v->∀ r,zT (zi v) r=zT v r
 | [],_,r=>rfl
 | x::v,h,r=>by
   have p:=List.pairwise_cons.1 h.2
   have hv:RightV v:=⟨fun e he=>h.1 e (by simp [he]),p.2⟩
   have ih:=ja hv r
   have hx:=h.1 x (by simp)
   unfold zi at ih ⊢
   rw [List.filterMap_cons,qm]
   cases e:QX x with
   | none=>
     have hk:kn x=[]:=by
      unfold QX kP at e
      rw [zaj] at e
      by_cases h':kn x=[]
      ·exact h'
      ·simp [h'] at e
     show zT (v.filterMap QX) r=_
     rw [ih]
     split
     ·rename_i hr
      rw [hk]
      exact qC fun e he=>by have:=p.1 e he;omega
     ·rfl
   | some c=>
     obtain⟨k1,rfl,k3⟩:=v9 e
     show zT ((kP x).1::v.filterMap QX) r=_
     rw [qm,k3,ih]
     split
     ·exact JO hx.2.2.2 (qT hx) k1
     ·rfl
section
variable {a b c:List En}
theorem fU0:zn false false=false:=rfl
theorem fM0:zm false false=false:=rfl
end
end Go.Proofs.YtonhfknjcbakiaaGreatDoor
namespace Go.Proofs.YtonhfknjcbakiaaGreatDoor
open Go.RowKit
attribute [local go_sem] Oper.semAt_some
theorem Vu (a:Option Addr) (n c:Nat) (w:World):Calls Tryz.prog 214 #[.slice a n c] w fun e w'=>e=.returned (.func (.func 229) #[] #[.pointer (some ⟨w.heap.size,0,none⟩)])/\w'=w.alloc (.cells #[.slice a n c] 32):=by
 go_enter Tryz.func214,Tryz.ntmps214
 go_wp2
 go_ret
 exact⟨rfl,rfl⟩
def OwnN (base:Nat) (w:World) (v:Value) (xs:List Nat):Prop:=w.ownsRow base 24 1 v xs.length (xs.map fun x=>.int .u64 (x:Nat))
theorem OwnN.nil (base:Nat) (w:World):OwnN base w (.slice none 0 0) []:=World.ownsRow_nil _ _ _ _
theorem OwnN.keep {base:Nat} {S:Nat->Prop} {w w':World} {v:Value} {l:List Nat} (h:OwnN base w v l) (hb:Keep S w w') (hs:∀ g,base<=g->g<w.heap.size->¬ S g):OwnN base w' v l:=
 hb.ownsRow h fun g hg=>hs g (h.lt g hg).1 (h.lt g hg).2
theorem OwnN.mono {base base':Nat} {w:World} {v:Value} {l:List Nat} (h:OwnN base w v l) (hb:base'<=base):OwnN base' w v l:=by
 refine⟨h.1,?_⟩
 rcases h.2 with hn | ⟨g,cap,cur,hv,hg,r⟩
 ·exact .inl hn
 ·exact .inr ⟨g,cap,cur,hv,Nat.le_trans hb hg,r⟩
def SN (n0:Nat) (A B:World):Prop:=(∃ v,Boxed A n0 157 v)/\Keep (fun k=>k=n0\/(n0+4<=k/\∃ cs f,A.heap[k]? = some (.cells cs 24 f))) A B
theorem SN.pt {n0:Nat} {A B:World} (h:SN n0 A B):PtE n0 (n0+1) A B:=by
 obtain⟨⟨v,hv⟩,hk⟩:=h
 refine⟨hk.size,fun k hlt hc=>hk.block k hlt ?_⟩
 rintro(rfl | ⟨h4,cs,f,hcs⟩)
 ·rcases hc with hc | hc | ⟨cs,f,t,hc,ht⟩
  ·omega
  ·omega
  ·have hv':A.heap[k]? = some (.cells #[v] 157 (0,0)):=hv
   rw [hv'] at hc
   cases hc
   rcases ht with ht | ht<;>cases ht
 ·rcases hc with hc | hc | ⟨cs2,f2,t,hc,ht⟩
  ·omega
  ·omega
  ·rw [hcs] at hc
   cases hc
   rcases ht with ht | ht<;>cases ht
theorem Q5 {W w1:World} {n0:Nat} {v v':Value} {xs ys:List Nat} {tmp:Obj}
 (hv:Boxed W n0 157 v) (hrow:OwnN (n0+4) W v xs) (hown':w1.ownsRow (n0+4) 24 1 v' ys.length (ys.map fun x=>.int .u64 (x:Nat))) (hgrow:(W.alloc tmp).grownBy w1 v.ownBlock) :
 Boxed (w1.setCell ⟨n0,0,none⟩ v') n0 157 v'/\OwnN (n0+4) (w1.setCell ⟨n0,0,none⟩ v') v' ys/\SN n0 W (w1.setCell ⟨n0,0,none⟩ v'):=by
 have hte : 157 ≠ 24 := by decide
 obtain⟨h1,h2,h3,h4⟩:=qO hv hte hrow hown' hgrow
 refine⟨h2,h3,⟨v,hv⟩,?_⟩
 refine Keep.setCell (p:=⟨n0,0,none⟩) ?_ (fun _=>.inl rfl) _
 refine((Keep.refl _ W).alloc tmp).grown hgrow fun j ej _=>.inr ⟨(hrow.lt j ej).1,?_⟩
 rcases hrow.2 with⟨rfl,_⟩ | ⟨g,cap,cur,rfl,hg,hh,_⟩
 ·cases ej
 ·have:g=j:=by simpa [Value.ownBlock] using ej
  subst this
  exact⟨_,_,hh⟩
theorem Tryz.infoU:(Tryz.prog.info? 24).map (fun i=>(i.zero,i.size,i.bytes))=some (some (Value.int .u64 0),1,8):=by kernel_rfl
theorem Q4 (v:List En) (va:Value) (w:World) (hv:RdV w.heap.size w va v) (hlen:(zv v).length<=1073741824) :
 Calls Tryz.prog 200 #[va] w fun e w'=>∃ u,e=.returned u/\OwnN w.heap.size w' u (zv v)/\Below w.heap.size w w':=by
 have HV:=Lib.hid hv
 obtain⟨av,cap,rfl,_⟩:=hv
 refine callsIn_wide.1 (callsIn_of_wp_marks (n:=9) Tryz.func200 rfl trivial ?_ rfl)
 simp only [Tryz.ntmps200,List.size_toArray,List.length_cons,List.length_nil,Nat.reduceAdd,Nat.reduceSub,Array.replicate_succ,Array.replicate_zero,List.push_toArray,List.append_toArray,List.nil_append,List.cons_append]
 gi_wp2_with (refine⟨trivial,?_⟩;gi_at_call 214;refine(callsIn_wide.2 (Vu _ _ _ _)).mono ?_;rintro e w' ⟨rfl,rfl⟩)
 obtain⟨W0,hW0⟩:∃ W0,((w.alloc (Obj.cells #[Value.slice none 0 0] 157)).alloc (Obj.cells #[Value.slice av v.length cap] 32))=W0:=⟨_,rfl⟩
 have hsz:W0.heap.size=w.heap.size+2:=by rw [<-hW0];simp
 have b0:Boxed W0 w.heap.size 157 (Value.slice none 0 0):=by rw [<-hW0];exact(Boxed.new w _ _).alloc _
 have b1:Boxed W0 (w.heap.size+1) 32 (Value.slice av v.length cap):=by rw [<-hW0];have:=Boxed.new (w.alloc (Obj.cells #[Value.slice none 0 0] 157)) 32 (Value.slice av v.length cap);rw [World.size_alloc] at this;exact this
 have hB0:Below w.heap.size w W0:=by rw [<-hW0];exact((Below.refl _ _).alloc (Nat.le_refl _) _).alloc (by simp) _
 try simp only [World.size_alloc]
 rw [hW0]
 clear hW0
 refine Xt (w:=W0) 229 #[.pointer (some ⟨w.heap.size+1,0,none⟩)] rfl (enters_of Tryz.func229 (by kernel_rfl) rfl) (fun x:Nat=>#[.int .u64 x]) (fun _=>rfl)
  (fun _=>False) (PtE w.heap.size (w.heap.size+1)) (zv v) ?hit
  (SN w.heap.size) (fun A B h k hk hlt=>h.2.block k hlt (by rintro(e | ⟨e,_⟩)<;>omega)) (fun A B h=>h.pt)
  ?hPt ?hPt0 ⟨id,id⟩
  (fun pre W=>(∃ u,Boxed W w.heap.size 157 u/\OwnN (w.heap.size+4) W u pre)/\Below w.heap.size w W)
  (fun _ _ _=>False) ?hI (fun _ _ _ _ h _=>h) ⟨⟨_,b0,OwnN.nil _ _⟩,hB0⟩
  (fun pre x a' W=>((∃ u,Boxed W w.heap.size 157 u/\OwnN (w.heap.size+4) W u pre)/\Below w.heap.size w W) /\
    a'={ tmps:=#[Value.slice av v.length cap,undef,Value.slice none 0 0,Value.pointer (some ⟨w.heap.size,0,none⟩),.int .u64 (x:Nat),Value.slice av v.length cap,Value.func (Fn.func 229) #[] #[Value.pointer (some ⟨w.heap.size+1,0,none⟩)],.int .u64 (x:Nat),undef,undef,undef,undef,undef],defers:=[] })
  ?hAx ?hassign ?hbody ?hdone (fun _ _ _ _ h _=>h.elim)
 case hit=>
  intro W hk _
  exact Vt v _ (w.heap.size+1) w.heap.size W (RdV.keep HV.out fun k hk2=>((hB0.trans (hk.below (by omega) fun _ _=>id)).block k hk2)) (hk.boxed b1 id) (by have:=hk.size;omega)
 case hPt=>
  rintro A B C ⟨h1,h2⟩ ⟨h3,h4⟩
  refine⟨Nat.le_trans h1 h3,fun k hk hc=>?_⟩
  have e1:=h2 k hk hc
  refine(h4 k (by omega) ?_).trans e1
  rcases hc with hc | hc | ⟨cs,f,t,hc,ht⟩
  ·exact .inl hc
  ·exact .inr (.inl hc)
  ·exact .inr (.inr ⟨cs,f,t,by rw [e1];exact hc,ht⟩)
 case hPt0=>
  rintro A B hk ⟨o,ho⟩
  refine⟨hk.size,fun k hlt hc=>hk.block k hlt ?_⟩
  rintro rfl
  rcases hc with hc | hc | ⟨cs,f,t,hc,ht⟩
  ·omega
  ·omega
  ·rw [ho] at hc;cases hc
 case hI=>
  rintro pre A B ⟨⟨u,h1,h2⟩,h3⟩ hk0
  have hk:Keep (fun k=>k=W0.heap.size\/k=W0.heap.size+1) A B:=hk0.mono fun _ _ h=>h.elim False.elim id
  exact⟨⟨u,hk.boxed h1 (by omega),h2.keep hk (fun g hg _=>by omega)⟩,h3.trans (hk.below h3.size fun k hk=>by omega)⟩
 case hAx=>
  rintro pre x a' A B ⟨⟨⟨u,h1,h2⟩,h3⟩,rfl⟩ hk
  exact⟨⟨⟨u,hk.boxed h1 (by omega),h2.keep hk (fun g hg _=>by omega)⟩,h3.trans (hk.below h3.size fun k hk=>by omega)⟩,rfl⟩
 case hassign=>
  rintro l pre x W hpx hlt ⟨⟨u,h1,h2⟩,h3⟩
  clear hpx
  gi_wp2
  exact⟨⟨⟨u,h1⟩,Keep.refl _ _⟩,⟨⟨u,h1,h2⟩,h3⟩,trivial⟩
 case hbody=>
  rintro l pre x a' W hpx hlt ⟨⟨⟨u,h1,h2⟩,h3⟩,rfl⟩
  have hc:=h1.cell
  have hf:=h1.frozen
  obtain⟨i0,hi0,hz0,hz1,hz2⟩:=info_parts Tryz.infoU
  have hl:pre.length+1<=(zv v).length:=by have:=hpx.length_le;simpa using this
  gi_wp2_with (gi_at_builtin;refine wpListIn_append_own _ rfl _ _ 157 rfl (w.heap.size+4) 24 i0 (.int .u64 0) 1 8 Tryz.underlying157 hi0 hz0 hz1 hz2 rfl (by decide) _ _ _ rfl (h2.alloc _) ⟨W.heap.size,0,none⟩ 1 1 [.int .u64 (x:Nat)] rfl rfl (kw (cs:=#[.int .u64 (x:Nat)]) (t := 24) (fr:=(0,0)) (World.alloc_heap_new W _)) (by simp [Value.oneCell']) (by unfold maxLen;omega) (by omega) (by rw [World.size_alloc];omega) ?_;intro v' w3 hown' hgrow _;obtain⟨g',cap',rfl⟩:=ownsRow_succ hown';obtain⟨q2,q3,q4⟩:=Q5 (ys:=pre++[x]) h1 h2 (by simpa using hown') hgrow;have q1c:=(qO h1 (by decide) h2 hown' hgrow).1.cell;have q1f:=(qO h1 (by decide) h2 hown' hgrow).1.frozen)
  exact⟨q4,⟨_,q2,q3⟩,h3.trans (q4.2.below h3.size fun k hk=>by rintro(e | ⟨e,_⟩)<;>omega)⟩
 case hdone=>
  rintro W ⟨⟨u,h1,h2⟩,h3⟩ hD
  have hc:=h1.cell
  gi_wp2
  refine⟨by simp,.inl ⟨_,_,rfl,run_takeDeferred hD,?_⟩⟩
  have hkD:Keep (fun k=>k=W0.heap.size) W (W.putObj W0.heap.size (.deferred none)):=(Keep.refl (fun k=>k=W0.heap.size) W).putObj (fun _=>rfl) _
  exact⟨_,results_tmp rfl _ _ _,u,rfl,OwnN.mono (h2.keep hkD fun g hg _=>by omega) (by omega),h3.trans (hkD.below h3.size fun k hk=>by omega)⟩
end Go.Proofs.YtonhfknjcbakiaaGreatDoor
namespace Go.Proofs.YtonhfknjcbakiaaGreatDoor
open Go.RowKit
variable {P:Program}
def qQ:Nat->List PV->List (Nat × PV)
 | _,[]=>[]
 | k,p::ps=>(k,p)::qQ (k+1) ps
theorem Qe:∀(ps:List PV) (k i:Nat),yr (qQ k ps) i=if k<=i then ps.getD (i - k) .und else .und
 | [],k,i=>by simp [qQ,yr]
 | p::ps,k,i=>by
   simp only [qQ,yr]
   by_cases h:k=i
   ·subst h;simp
   ·rw [if_neg h,Qe ps (k+1) i]
    by_cases h2:k+1<=i
    ·rw [if_pos h2,if_pos (by omega)]
     obtain⟨d,hd⟩:∃ d,i - k=d+1:=⟨i - k - 1,by omega⟩
     rw [hd,show i - (k+1)=d from by omega]
     rfl
    ·rw [if_neg h2,if_neg (by omega)]
def PV.resD:PV->Bool
 | .agg cs=>zY cs
 | p=>p.isD
def zgB:List Value->Value
 | [u]=>u
 | us=>.tuple us.toArray
inductive RV where
 | t (i:Nat)
 | c (i:Nat) (ag:Bool) (n:Nat)
def RV.get (s:PS):RV->Option PV
 | .t i=>some (s.get i)
 | .c i ag n=>match s.get i with
   | .bx j o=>match s.b[j]? with
     | some cs=>match ag with
       | true=>if o+n<=cs.length then some (.agg ((cs.drop o).take n)) else none
       | false=>cs[o]?
     | none=>none
   | _=>none
def YJ (s:PS):List RV->Option (List PV)
 | []=>some []
 | r::l=>(r.get s).bind fun p=>(YJ s l).map fun ps=>p::ps
def jC (rs:List RV) (s:PS) (r:PV):Prop:=match rs with
 | [.t t]=>SubP 0 (s.get t) r
 | [x]=>match x.get s with
   | some p=>p.resD=true/\SubP 0 p.sh r/\r.own=none
   | none=>False
 | rs=>match YJ s rs with
   | some ps=>ps.all PV.resD=true/\SubP 0 (.tup (ps.map PV.sh)) r
   | none=>False
def jG (rs:List RV) (r:PV):PX->PS->Prop
 | .x _,_=>False
 | _,s=>jC rs s r
def XU (P:Program):ResultVar->Option RV
 | .tmp t=>some (.t t)
 | .cell a t=>(XH P t).bind fun(ag,n)=>if ag || n == 1 then some (.c a ag n) else none
def yc (P:Program):List ResultVar->Option (List RV)
 | []=>some []
 | r::l=>(XU P r).bind fun x=>(yc P l).map fun xs=>x::xs
section
variable {B:Bs} {nt:Nat} {g:Gh} {s:PS} {a:Act} {w:World}
def Xs (tmps:Array Value):ResultVar->Sem Value
 | .tmp t=>pure (tmps.getD t undef)
 | .cell a t=>do loadVar t (<-asAddr (tmps.getD a undef))
theorem ziS (h:R B g s (zB a) w) {rv:ResultVar} {x:RV} {p:PV} (hc:XU P rv=some x) (hg:x.get s=some p) (hd:p.resD=true):∃ u,(Xs a.tmps rv).run P w=.ok u w/\Dat g.D w u p.sh:=by
 cases rv with
 | tmp t=>
   cases hc
   simp only [RV.get,Option.some.injEq] at hg
   subst hg
   have hD:(s.get t).isD=true:=by
    revert hd
    cases s.get t<;>intro hd<;>first | exact hd | rfl
   exact⟨_,rfl,((h.slots t).data hD).sh⟩
 | cell i t=>
   simp only [XU,Option.bind_eq_some_iff] at hc
   obtain⟨⟨ag,n⟩,hs,hc⟩:=hc
   simp only at hc
   split at hc
   ·rename_i hcond
    cases hc
    simp only [RV.get] at hg
    split at hg
    ·rename_i j o e
     have hr:=h.slots i
     rw [e] at hr
     obtain⟨hj,e1⟩:=hr.inv_bx
     split at hg
     ·rename_i cs hcs
      obtain⟨hW,vs,e',hv,hz,hb⟩:=h.boxes j cs hcs
      have hcell:∀ k,k<cs.length->w.cell? ⟨g.ρ j,0+k,none⟩=some (vs.getD k undef)/\(vs.getD k undef).oneCell'=true:=fun k hk=>by
       refine⟨?_,(hb k _ (List.getElem?_eq_getElem hk)).2⟩
       simp only [World.cell?,hv]
       simp [show k<vs.size by omega]
      have hq:VI cs o ag n fun y=>y=p:=by
       unfold VI
       cases ag with
       | true=>
         simp only at hg ⊢
         split at hg
         ·rename_i hle;cases hg;exact⟨hle,rfl⟩
         ·cases hg
       | false=>
         simp only at hg ⊢
         rw [hg]
      have hall:ag=true->zY ((cs.drop o).take n)=true:=fun e=>by
       subst e
       simp only at hg
       split at hg
       ·cases hg;exact hd
       ·cases hg
      obtain⟨u,p',g1,g2,rfl⟩:=Qv (P:=P) (D:=g.D) (ρ:=g.ρ) (nb:=s.b.length) hs hq hcell (fun k q hq=>(hb k q hq).1) hall
      refine⟨u,?_,(g2.data ?_).sh⟩
      ·rw [Nat.zero_add] at g1
       have e2:a.tmps.getD i undef=.pointer (some ⟨g.ρ j,o,none⟩):=e1
       simp only [Xs,e2,asAddr,Sem.run_bind,Sem.run_pure,Result.andThen_ok,g1]
      ·revert hd
       cases p'<;>intro hd<;>first | exact hd | rfl
     ·cases hg
    ·cases hg
   ·cases hc
theorem Kj (h:R B g s (zB a) w):∀ {l:List ResultVar} {rs:List RV} {ps:List PV},yc P l=some rs->YJ s rs=some ps->ps.all PV.resD=true ->
 ∃ us:List Value,(l.mapM (Xs a.tmps)).run P w=.ok us w/\us.length=ps.length/\l.length=rs.length/\∀(i:Nat) p,ps[i]? = some p->Dat g.D w (us.getD i undef) p.sh
 | [],rs,ps,hc,hp,_=>by cases hc;cases hp;exact⟨[],rfl,rfl,rfl,fun i p h=>by simp at h⟩
 | r::l,rs,ps,hc,hp,hd=>by
   simp only [yc,Option.bind_eq_some_iff,Option.map_eq_some_iff] at hc
   obtain⟨x,hx,xs,hxs,rfl⟩:=hc
   simp only [YJ,Option.bind_eq_some_iff,Option.map_eq_some_iff] at hp
   obtain⟨p,hp,qs,hq,rfl⟩:=hp
   simp only [List.all_cons,Bool.and_eq_true] at hd
   obtain⟨u,h1,h2⟩:=ziS h hx hp hd.1
   obtain⟨us,h3,h4,h5,h6⟩:=Kj h hxs hq hd.2
   refine⟨u::us,by simp only [List.mapM_cons,Sem.run_bind,h1,Result.andThen_ok,h3,Sem.run_pure],by simp [h4],by simp [h5],fun i q hi=>?_⟩
   cases i with
   | zero=>simp at hi;subst hi;exact h2
   | succ i=>simpa using h6 i q (by simpa using hi)
theorem xZ (fn:Func) (tmps:Array Value) {us:List Value} (h:(fn.results.toList.mapM (Xs tmps)).run P w=.ok us w):(results fn tmps).run P w=.ok (zgB us) w:=by
 unfold results
 rw [Array.mapM_eq_mapM_toList]
 simp only [Sem.run_bind,Sem.run_map]
 erw [h]
 simp only [Result.andThen_ok,Sem.run_pure]
 match us with
 | []=>rfl
 | [u]=>rfl
 | u::v::l=>simp [zgB]
end
theorem ze2 {D:Nat->Nat->Prop} {ρ:Nat->Nat} {w:World} {u:Value} {p:PV} (h:Rel D ρ 0 w u p):Dat D w u p:=by
 have h1:∀ {u p},Rel1 D ρ 0 w u p->Dat D w u p:=fun h=>by
  rcases h with h | ⟨i,o,_,hi,_⟩
  ·exact h
  ·omega
 rcases h with h | ⟨f,va,vb,fs,cs,rfl,rfl,h3,h4,h5,h6⟩
 ·exact h1 h
 ·exact .fn f va vb fs cs h3 h4 (fun i p hp=>h1 (h5 i p hp)) (fun i p hp=>h1 (h6 i p hp))
theorem Ym {f:FuncId} {fn:Func} {c:Code} (hf:P.funcs[f]? = some fn) (hn:(fn.name == "runtime.NumGoroutine")=false) (hb:fn.body=some c):∀ args w,(callFunc f args).run P w=.ok (.enter f args) w:=by
 intro args w
 have hn':¬ fn.name = "runtime.NumGoroutine" := by simpa using hn
 simp [callFunc,hf,hn',hb]
theorem zjM {f:FuncId} {fn:Func} {c:Code} {pc:PC} (ms:List Nat) (hf:P.funcs[f]? = some fn) (hn:(fn.name == "runtime.NumGoroutine")=false) (hb:fn.body=some c) (rs:List RV) (hr:yc P fn.results.toList=some rs) (nt:Nat) (hnt:fn.ntmps=nt) (hc:qx P nt ms c=some pc) {ps:List PV} {r:PV}
 (hps:∀ p ∈ ps,p.own=none) (hl:ps.length<=nt) (hvc:pW P nt True pc (jG rs r) ⟨qQ 0 ps,[]⟩):Cn P f ps r:=by
 refine⟨Ym hf hn hb,fun D w vs hgl hD hsz hd=>calls_of_wp hf hb ?_⟩
 subst hnt
 obtain⟨a,ha⟩:∃ a:Act,({ tmps:=vs++Array.replicate (fn.ntmps - vs.size) undef,defers:=[] }:Act)=a:=⟨_,rfl⟩
 rw [ha]
 have hR:RA ⟨w,D,fun _=>False,hgl,[]⟩ fn.ntmps ⟨D,fun _=>0⟩ ⟨qQ 0 ps,[]⟩ a w:=by
  have hget:∀ t,(⟨qQ 0 ps,[]⟩:PS).get t=ps.getD t .und:=fun t=>by
   show yr (qQ 0 ps) t=_
   rw [Qe];simp
  have hown:∀ u p,zQ ⟨D,fun _=>0⟩ ⟨qQ 0 ps,[]⟩ (zB a) w u p->p.own=none:=by
   rintro u p (⟨t,rfl,rfl⟩ | ⟨i,j,cs,h1,_⟩)
   ·rw [hget,List.getD_eq_getElem?_getD]
    cases h:ps[t]? with
    | none=>rfl
    | some p=>exact hps p (List.mem_of_getElem? h)
   ·simp at h1
  refine⟨⟨fun t=>?_,fun i cs h=>by simp at h,fun i j h=>by simp at h,fun u p h=>zr (hown u p h),fun u p u' p' b h _ ho=>absurd (hown u p h) ho,fun u p b i h ho=>absurd (hown u p h) ho,hD,fun i h=>by simp at h,⟨rfl,rfl,rfl,Nat.le_refl _,fun _ _ _=>rfl,fun _ _ h=>h,fun _ _ _ _ h=>h,fun _ _ h=>.inl h,hD⟩⟩,by rw [<-ha],by rw [<-ha];simp;omega⟩
  rw [hget,List.getD_eq_getElem?_getD]
  cases h:ps[t]? with
  | none=>exact .dat (.und _)
  | some p=>
    have:=hd t p h
    have ht:t<vs.size:=by rw [hsz];exact(List.getElem?_eq_some_iff.1 h).1
    have e:zB a t=vs.getD t undef:=by
     rw [<-ha]
     simp [zB,Array.getElem?_append_left ht]
    rw [e];exact .dat this
 refine wp_mono (Ql (B:=⟨w,D,fun _=>False,hgl,[]⟩) (fun _ _ h=>h) c pc hc _ _ _ a w hvc hR) fun e a' w' he=>?_
 have fin:∀ s g,RA ⟨w,D,fun _=>False,hgl,[]⟩ fn.ntmps g s a' w'->jC rs s r->bodyPost P fn (fun e w'=>∃ v D',e=.returned v/\Below w.heap.size w w'/\(∀ b o,D b o->D' b o)/\(∀ b o,D' b o->D b o\/w.heap.size<=b)/\(∀ b o,D' b o->b<w'.heap.size)/\Dat D' w' v r/\yW D' (fun k=>w.heap.size<=k) w' v r) .ret a' w':=by
  intro s g h hret
  obtain⟨hR,hdf,_⟩:=h
  have hbel:Below w.heap.size w w':=⟨hR.fr.os,hR.fr.tape,hR.fr.output,hR.fr.size,fun k hk=>hR.fr.block k hk fun h=>h⟩
  have hnew:∀ b o,g.D b o->D b o\/w.heap.size<=b:=fun b o h=>by
   rcases hR.fr.new b o h with h' | h' | h'
   ·exact .inl h'
   ·exact .inr h'
   ·exact h'.elim
  have many:∀ ps',YJ s rs=some ps'->ps'.all PV.resD=true->∃ us:List Value,(results fn a'.tmps).run P w'=.ok (zgB us) w'/\us.length=ps'.length/\∀(i:Nat) p,ps'[i]? = some p->Dat g.D w' (us.getD i undef) p.sh:=fun ps' h1 h2=>by
   obtain⟨us,k1,k2,_,k3⟩:=Kj hR hr h1 h2
   exact⟨us,xZ fn _ k1,k2,k3⟩
  unfold jC at hret
  split at hret
  ·rename_i t
   have hres:fn.results.toList=[.tmp t]:=by
    revert hr
    cases fn.results.toList with
    | nil=>intro h;cases h
    | cons x l=>
      intro h
      simp only [yc,Option.bind_eq_some_iff,Option.map_eq_some_iff] at h
      obtain⟨y,hy,ys,hys,e⟩:=h
      cases e
      cases l with
      | nil=>
        cases x with
        | tmp t=>cases hy;rfl
        | cell a t=>
          simp only [XU,Option.bind_eq_some_iff] at hy
          obtain⟨⟨ag,n⟩,_,hy⟩:=hy
          simp only at hy
          split at hy<;>cases hy
      | cons z l=>
        simp only [yc,Option.bind_eq_some_iff,Option.map_eq_some_iff] at hys
        obtain⟨_,_,_,_,e⟩:=hys
        cases e
   have hrun:=xZ (P:=P) (w:=w') fn a'.tmps (us:=[a'.tmps.getD t undef]) (by rw [hres];rfl)
   refine⟨hdf,_,hrun,_,g.D,rfl,hbel,hR.fr.d0,hnew,hR.dlt,ze2 (SubP.rel hret (hR.slots t)),?_⟩
   by_cases ho:r.own=none
   ·exact zr ho
   ·rcases SubP.own hret (hR.slots t) ho with rfl | ⟨_,hk⟩
    ·have:=hR.owns _ _ (hR.slot t)
     revert this ho
     cases s.get t<;>try (intros;trivial)
     rename_i es ow
     cases ow<;>try (intros;trivial)
     intro _ h
     rcases h with hn | ⟨gg,cap,cur,e,h1,hW,h2⟩
     ·exact .inl hn
     ·exact .inr ⟨gg,cap,cur,e,h1,hW.resolve_right (fun h=>h),h2⟩
    ·exact hk _ _ _
  ·rename_i x _
   split at hret
   ·rename_i p hp
    obtain⟨h1,h2,h3⟩:=hret
    obtain⟨us,k1,k2,k3⟩:=many [p] (by simp [YJ,hp]) (by simpa using h1)
    match us,k2 with
    | [u],_=>
      refine⟨hdf,_,k1,_,g.D,rfl,hbel,hR.fr.d0,hnew,hR.dlt,?_,zr h3⟩
      exact ze2 (ρ:=g.ρ) (SubP.rel h2 (nb:=0) (.dat (k3 0 p rfl)))
   ·exact hret.elim
  ·split at hret
   ·rename_i hne1 hne2 _ ps' hp
    obtain⟨h1,h2⟩:=hret
    obtain⟨us,k1,k2,k3⟩:=many ps' hp h1
    have hlen:us.length≠1:=by
     intro e
     rw [k2] at e
     have hl2:∀ {rs ps'},YJ s rs=some ps'->ps'.length=rs.length:=by
      intro rs
      induction rs with
      | nil=>intro ps' h;cases h;rfl
      | cons x l ih=>
        intro ps' h
        simp only [YJ,Option.bind_eq_some_iff,Option.map_eq_some_iff] at h
        obtain⟨p,_,qs,hq,rfl⟩:=h
        simp [ih hq]
     rw [hl2 hp] at e
     match rs,e with
     | [x],_=>exact hne2 x rfl
    have ev:zgB us=.tuple us.toArray:=by
     revert hlen
     match us with
     | []=>intro _;rfl
     | [u]=>intro h;exact absurd rfl h
     | u::v::l=>intro _;rfl
    rw [ev] at k1
    have:r.own=none:=by cases h2<;>rfl
    refine⟨hdf,_,k1,_,g.D,rfl,hbel,hR.fr.d0,hnew,hR.dlt,?_,zr this⟩
    refine ze2 (ρ:=g.ρ) (SubP.rel h2 (nb:=0) (.dat (.tup _ _ (by simp [k2]) fun i p hp=>?_)))
    simp only [List.getElem?_map,Option.map_eq_some_iff] at hp
    obtain⟨q,hq,rfl⟩:=hp
    have:=k3 i q hq
    simpa [List.getD_eq_getElem?_getD] using this
   ·exact hret.elim
 cases e with
 | normal=>obtain⟨s,g,h1,h2⟩:=he;exact fin s g h1 h2
 | ret=>obtain⟨s,g,h1,h2⟩:=he;exact fin s g h1 h2
 | exit id=>obtain⟨s,g,h1,h2⟩:=he;exact h2.elim
 | goto l=>exact he.elim
 | panic ch=>exact he.elim
 | outgrown=>exact he.elim
def zao (t:Nat) (rs:List (List PV)) (sz:Nat):PX->PS->Prop
 | .x _,_=>False
 | _,s=>match s.get t with
   | .sl es (.r _ sz')=>es=rs/\sz'=sz
   | _=>False
theorem zio {f:FuncId} {fn:Func} {c:Code} {pc:PC} (ms:List Nat) (hf:P.funcs[f]? = some fn) (hn:(fn.name == "runtime.NumGoroutine")=false) (hb:fn.body=some c) (t:Nat) (hr:yc P fn.results.toList=some [.t t]) (nt:Nat) (hnt:fn.ntmps=nt) (hc:qx P nt ms c=some pc) {es rs:List (List PV)} {sz:Nat} {ps:List PV}
 (hps:∀ p ∈ ps,p.own=none) (hl:ps.length+1<=nt) (hvc:pW P nt False pc (zao t rs sz) ⟨qQ 0 (.sl es (.r 0 sz)::ps),[]⟩):OCn P f es sz ps rs:=by
 refine⟨Ym hf hn hb,fun D w v vs hgl hD hsz hd hv hvo=>calls_of_wp hf hb ?_⟩
 subst hnt
 obtain⟨a,ha⟩:∃ a:Act,({ tmps:=(#[v]++vs)++Array.replicate (fn.ntmps - (#[v]++vs).size) undef,defers:=[] }:Act)=a:=⟨_,rfl⟩
 rw [ha]
 have hget:∀ i,(⟨qQ 0 (.sl es (.r 0 sz)::ps),[]⟩:PS).get i=(PV.sl es (.r 0 sz)::ps).getD i .und:=fun i=>by
  show yr (qQ 0 _) i=_
  rw [Qe];simp
 have hslt0:zB a 0=v:=by
  rw [<-ha]
  simp only [zB,Array.getD_eq_getD_getElem?]
  rw [Array.getElem?_append_left (by simp;omega),Array.getElem?_append_left (by simp)]
  rfl
 have hs:∀ u p,zQ ⟨D,fun _=>0⟩ ⟨qQ 0 (.sl es (.r 0 sz)::ps),[]⟩ (zB a) w u p->p.own≠none->u=v/\p=.sl es (.r 0 sz):=by
  rintro u p (⟨i,rfl,rfl⟩ | ⟨i,j,cs,h1,_⟩) ho
  ·rw [hget] at ho ⊢
   cases i with
   | zero=>exact⟨hslt0,rfl⟩
   | succ i=>
     exfalso
     simp only [List.getD_eq_getElem?_getD,List.getElem?_cons_succ] at ho
     cases h:ps[i]? with
     | none=>rw [h] at ho;exact ho rfl
     | some p=>rw [h] at ho;exact ho (hps p (List.mem_of_getElem? h))
  ·simp at h1
 have hvo':yW D (Bs.W ⟨w,D,fun k=>zc v=some k,hgl,[]⟩) w v (.sl es (.r 0 sz)):=by
  rcases hvo with hn | ⟨gg,cap,cur,e,h1,h2,h3⟩
  ·exact .inl hn
  ·cases cap with
   | zero=>
     by_cases hes:es=[]
     ·subst hes;exact .inl ⟨_,by rw [h1];rfl,rfl⟩
     ·have:=QH (ρ:=fun _=>0) (nb:=0) (.dat (h1 ▸ hv))
      exact absurd (List.eq_nil_of_length_eq_zero (Nat.le_zero.1 this.1)) hes
   | succ cap=>exact .inr ⟨gg,_,cur,e,h1,.inr (by rw [h1];rfl),h3⟩
 have hR:RA ⟨w,D,fun k=>zc v=some k,hgl,[]⟩ fn.ntmps ⟨D,fun _=>0⟩ ⟨qQ 0 (.sl es (.r 0 sz)::ps),[]⟩ a w:=by
  refine⟨⟨fun i=>?_,fun i cs h=>by simp at h,fun i j h=>by simp at h,fun u p h=>?_,fun u p u' p' b h h' ho ho' _ _=>by rw [(hs u p h ho).2,(hs u' p' h' ho').2],fun u p b i h ho _ hi=>by simp at hi,hD,fun i h=>by simp at h,⟨rfl,rfl,rfl,Nat.le_refl _,fun _ _ _=>rfl,fun _ _ h=>h,fun _ _ _ _ h=>h,fun _ _ h=>.inl h,hD⟩⟩,by rw [<-ha],by rw [<-ha];simp;omega⟩
  ·rw [hget]
   cases i with
   | zero=>rw [hslt0];exact .dat (hv.owned _ _)
   | succ i=>
     simp only [List.getD_eq_getElem?_getD,List.getElem?_cons_succ]
     cases h:ps[i]? with
     | none=>exact .dat (.und _)
     | some p=>
       have:=hd i p h
       have ht:i<vs.size:=by rw [hsz];exact(List.getElem?_eq_some_iff.1 h).1
       have e:zB a (i+1)=vs.getD i undef:=by
        rw [<-ha]
        simp only [zB,Array.getD_eq_getD_getElem?]
        rw [Array.getElem?_append_left (by simp;omega),Array.getElem?_append_right (by simp)]
        simp
       rw [e];exact .dat this
  ·by_cases ho:p.own=none
   ·exact zr ho
   ·obtain⟨rfl,rfl⟩:=hs u p h ho
    exact hvo'
 refine wp_mono (Ql (B:=⟨w,D,fun k=>zc v=some k,hgl,[]⟩) (fun h=>h.elim) c pc hc _ _ _ a w hvc hR) fun e a' w' he=>?_
 have hres:fn.results.toList=[.tmp t]:=by
  revert hr
  cases fn.results.toList with
  | nil=>intro h;cases h
  | cons x l=>
    intro h
    simp only [yc,Option.bind_eq_some_iff,Option.map_eq_some_iff] at h
    obtain⟨y,hy,ys,hys,e⟩:=h
    cases e
    cases l with
    | nil=>
      cases x with
      | tmp t=>cases hy;rfl
      | cell a t=>
        simp only [XU,Option.bind_eq_some_iff] at hy
        obtain⟨⟨ag,n⟩,_,hy⟩:=hy
        simp only at hy
        split at hy<;>cases hy
    | cons z l=>
      simp only [yc,Option.bind_eq_some_iff,Option.map_eq_some_iff] at hys
      obtain⟨_,_,_,_,e⟩:=hys
      cases e
 have fin:∀ s g,RA ⟨w,D,fun k=>zc v=some k,hgl,[]⟩ fn.ntmps g s a' w'->(match s.get t with | .sl es (.r _ sz')=>es=rs/\sz'=sz | _=>False)->bodyPost P fn (fun e w'=>∃ u D',e=.returned u/\(w'.os=w.os/\w'.tape=w.tape/\w'.output=w.output/\w.heap.size<=w'.heap.size)/\(∀ k,k<w.heap.size->zc v≠some k->w'.heap[k]? = w.heap[k]?) /\
  (∀ b o y,D b o->w.cell? ⟨b,o,none⟩=some y->w'.cell? ⟨b,o,none⟩=some y)/\(∀ b o,D b o->D' b o)/\(∀ b o,D' b o->D b o\/w.heap.size<=b\/zc v=some b)/\(∀ b o,D' b o->b<w'.heap.size) /\
  Dat D' w' u (.sl rs .sh)/\yW D' (fun k=>w.heap.size<=k\/zc v=some k) w' u (.sl rs (.r 0 sz))) .ret a' w':=by
  intro s g h hret
  obtain⟨hZ,hdf,_⟩:=h
  split at hret
  ·rename_i es' m sz' e
   obtain⟨rfl,rfl⟩:=hret
   have hrun:=xZ (P:=P) (w:=w') fn a'.tmps (us:=[a'.tmps.getD t undef]) (by rw [hres];rfl)
   have h1:=hZ.slots t
   have h2:=hZ.owns _ _ (hZ.slot t)
   rw [e] at h1 h2
   have hd1:Dat g.D w' (zB a' t) (.sl es' .sh):=by
    rcases h1 with(hr | ⟨_,_,hh,_⟩) | ⟨_,_,_,_,_,hh,_⟩
    ·exact hr.sh
    ·cases hh
    ·cases hh
   refine⟨hdf,_,hrun,_,g.D,rfl,⟨hZ.fr.os,hZ.fr.tape,hZ.fr.output,hZ.fr.size⟩,fun k hk hn=>hZ.fr.block k hk hn,fun b o y hD hy=>hZ.fr.cell b o y hD hy,hZ.fr.d0,fun b o hD=>hZ.fr.new b o hD,hZ.dlt,hd1,?_⟩
   rcases h2 with hn | ⟨gg,cap,cur,e,q1,q2,q3⟩
   ·exact .inl hn
   ·exact .inr ⟨gg,cap,cur,e,q1,q2,q3⟩
  ·exact hret.elim
 cases e with
 | normal=>obtain⟨s,g,h1,h2⟩:=he;exact fin s g h1 h2
 | ret=>obtain⟨s,g,h1,h2⟩:=he;exact fin s g h1 h2
 | exit id=>obtain⟨s,g,h1,h2⟩:=he;exact h2.elim
 | goto l=>exact he.elim
 | panic ch=>exact he.elim
 | outgrown=>exact he.elim
def xN (fn:Func):Code:=match fn.body with
 | some c=>c
 | none=>.skip
def zbo (P:Program) (fn:Func) (ms:List Nat) (n:Nat):Bool:=!(fn.name == "runtime.NumGoroutine") && fn.body.isSome && (yc P fn.results.toList).isSome && (qx P fn.ntmps ms (xN fn)).isSome && decide (n<=fn.ntmps)
def zbt (P:Program) (fn:Func) (ms:List Nat):PC:=(qx P fn.ntmps ms (xN fn)).getD .sk
def zgk (P:Program) (fn:Func):List RV:=(yc P fn.results.toList).getD []
theorem zgM {f:FuncId} {fn:Func} (hf:P.funcs[f]? = some fn) (ms:List Nat) {ps:List PV} {r:PV} (n:Nat) (hok:zbo P fn ms n=true) (hl:ps.length=n) (hps:∀ p ∈ ps,p.own=none) (hvc:pW P fn.ntmps True (zbt P fn ms) (jG (zgk P fn) r) ⟨qQ 0 ps,[]⟩):Cn P f ps r:=by
 unfold zbo at hok
 simp only [Bool.and_eq_true,Bool.not_eq_true',decide_eq_true_eq] at hok
 obtain⟨⟨⟨⟨h1,h2⟩,h3⟩,h4⟩,h5⟩:=hok
 obtain⟨c,hc⟩:=Option.isSome_iff_exists.1 h2
 obtain⟨rs,hrs⟩:=Option.isSome_iff_exists.1 h3
 obtain⟨pc,hpc⟩:=Option.isSome_iff_exists.1 h4
 unfold zbt zgk at hvc
 rw [hpc,hrs] at hvc
 have e:xN fn=c:=by unfold xN;rw [hc]
 rw [e] at hpc
 exact zjM ms hf h1 hc rs hrs fn.ntmps rfl hpc hps (by omega) hvc
theorem zin {f:FuncId} {fn:Func} (hf:P.funcs[f]? = some fn) (ms:List Nat) {es rs:List (List PV)} {sz:Nat} {ps:List PV} (n t:Nat) (hok:zbo P fn ms n=true) (hrs:yc P fn.results.toList=some [.t t]) (hl:ps.length+1=n) (hps:∀ p ∈ ps,p.own=none) (hvc:pW P fn.ntmps False (zbt P fn ms) (zao t rs sz) ⟨qQ 0 (.sl es (.r 0 sz)::ps),[]⟩):OCn P f es sz ps rs:=by
 unfold zbo at hok
 simp only [Bool.and_eq_true,Bool.not_eq_true',decide_eq_true_eq] at hok
 obtain⟨⟨⟨⟨h1,h2⟩,h3⟩,h4⟩,h5⟩:=hok
 obtain⟨c,hc⟩:=Option.isSome_iff_exists.1 h2
 obtain⟨pc,hpc⟩:=Option.isSome_iff_exists.1 h4
 unfold zbt at hvc
 rw [hpc] at hvc
 have e:xN fn=c:=by unfold xN;rw [hc]
 rw [e] at hpc
 exact zio ms hf h1 hc t hrs fn.ntmps rfl hpc hps (by omega) hvc
end Go.Proofs.YtonhfknjcbakiaaGreatDoor
namespace Go.Proofs.YtonhfknjcbakiaaGreatDoor
theorem zdd {f:Bool->Bool->Bool} {a b:List En}:∀ e ∈ ks f a b,e.rep ∈ srt (zM a++zM b):=fun e he=>by
 unfold ks at he
 obtain⟨r,hr,h⟩:=List.mem_filterMap.1 he
 rw [(xz h).2.2]
 exact hr
def BV (n h:Nat) (v:List En):Prop:=RightV v/\v.length<=n/\∀ e ∈ v,e.holes.length<=h
theorem ji {n h:Nat} {v:List En} (hv:BV n h v) (r:Nat):(zT v r).length<=2 * h+3:=by
 unfold zT
 cases hf:v.find? (fun e=>e.rep == r) with
 | none=>simp
 | some e=>
   have h1:=hv.2.2 e (List.mem_of_find?_eq_some hf)
   have h2:=kW e
   simp only
   omega
theorem BV.mono {n h m k:Nat} {v:List En} (hv:BV n h v) (h1:n<=m) (h2:h<=k):BV m k v:=⟨hv.1,Nat.le_trans hv.2.1 h1,fun e he=>Nat.le_trans (hv.2.2 e he) h2⟩
end Go.Proofs.YtonhfknjcbakiaaGreatDoor
namespace Go.Proofs.YtonhfknjcbakiaaGreatDoor
open Go.RowKit
instance kpoW:Pl.Kpo World:=⟨Keep qe,fun w=>Keep.refl _ w,fun _ _ _ h k=>h.trans k⟩
namespace Pl
variable {Ω:Type} [Kpo Ω]
theorem walkE_mono {opw:Oper->Act->Ω->(Act->Ω->Prop)->Prop} {a0:Act} {w0:Ω} {C:Ω->Prop} {E E':List (Option Tmp × VP Ω)->Prop} (hE:∀ env,E env->E' env):∀(l:List Oper) (env:List (Option Tmp × VP Ω)),walkE opw a0 w0 C E l env->walkE opw a0 w0 C E' l env
 | [],env,h=>hE env h
 | o::l,env,⟨V,h1,h2,h3⟩=>⟨V,h1,h2,walkE_mono hE l _ h3⟩
omit [Kpo Ω] in
theorem finG_mono {F F':Act->Ω->Prop} {w:Ω} (hF:∀ a w,F a w->F' a w):∀(env:List (Option Tmp × VP Ω)) (a:Act),finG F w env a->finG F' w env a
 | [],a,h=>hF a w h
 | (none,_)::r,a,h=>finG_mono hF r a h
 | (some d,V)::r,a,h=>fun u hu=>finG_mono hF r _ (h u hu)
section
variable {P:Program} {Q:Exit->Act->World->Prop} {a0:Act} {w0:World} {C:World->Prop} {E:List (Option Tmp × VP World)->Prop} {l:List Oper} {o:Oper} {env:List (Option Tmp × VP World)} {f:Nat->Nat}
theorem wdetK (v:Value) (hg:o.guard=none) (h:∀ a w,C w->Keep qe w0 w->Rds env a0 (zA o) a w->(execOp a.eval o).run P w=.ok (.value v) w)
 (hn:walkE (xC P Q) a0 w0 C E l (env++[(o.dst,fun u _=>u=v)])):walkE (xC P Q) a0 w0 C E (jA f o::l) env:=
 ⟨fun u _=>u=v,fun _ _ _ h _=>h,by
  have hg':(jA f o).guard=none:=by simp [jA,hg]
  unfold stepOk
  rw [hg']
  intro a w hc hk hr K hK
  show (jA f o).wp P a w K Q
  rw [Xq]
  show o.upon P a K Q ((execOp a.eval o).run P w)
  rw [h a w hc hk hr]
  exact hK v w (Keep.refl _ _) hc rfl,hn⟩
theorem wgenK (V:VP World) (hs:∀ u w w',V u w->Keep qe w w'->V u w') (hg:o.guard=none)
 (h:headOk (xC P Q) a0 w0 C env o V) (hn:walkE (xC P Q) a0 w0 C E l (env++[(o.dst,V)])):walkE (xC P Q) a0 w0 C E (jA f o::l) env:=
 ⟨V,hs,by
  have hg':(jA f o).guard=none:=by simp [jA,hg]
  unfold stepOk
  rw [hg']
  intro a w hc hk hr K hK
  show (jA f o).wp P a w K Q
  rw [Xq]
  exact h a w hc hk hr K hK,hn⟩
end
end Pl
theorem znC {P:Program} {id:Nat} {l:List Oper} {Q:Exit->Act->World->Prop} {a:Act} {w:World} (σ:List Nat) (nh nt:Nat) (C:World->Prop) (hm:P.follows .mixedOrders=true) (hp:q9 l.length σ=true)
 (hB:(zck (z8 l σ).toArray nh 1 nt && yK (z8 l σ).toArray (nh+1))=true) (hnt:a.tmps.size=nt) (hC:C w.drew) (cut flo:Oper) (hcut:(z8 l σ)[nh+1]? = some cut) (hflo:(z8 l σ)[nh]? = some flo) (hg1:cut.guard=none) (hg2:flo.guard=none) (L2:List Oper) (hL2:(z8 l σ).drop (nh+2)=L2)
 (h:Pl.walkE (xC P Q) a w.drew C (fun env=>(∀ w',C w'->Keep qe w.drew w'->Pl.finG (fun a w=>wpList P (z8 l σ).toArray Q (cut::L2) a w) w' env a)/\∀ w',C w'->Keep qe w.drew w'->Pl.finG (fun a w=>cut.wp P a w (fun a w=>wpList P (z8 l σ).toArray Q (flo::L2) a w) Q) w' (env.take nh) a) ((z8 l σ).take (nh+1)) []):(Code.region id l.toArray true).wp P Q a w:=by
 refine wp_region_any hm ?_
 refine xd hp ?_
 generalize z8 l σ=L at *
 rw [Bool.and_eq_true] at hB
 obtain⟨hr0,hsz,hR,hlead,hchain,hback⟩:=KI hB.1
 have hs:nh+2<=L.length:=by simpa using hsz
 have hd1:L.drop (nh+1)=cut::L2:=by
  rw [List.drop_eq_getElem_cons (by omega),hL2]
  rw [List.getElem?_eq_getElem (by omega)] at hcut
  rw [Option.some.inj hcut]
 obtain⟨CT,hCT⟩:∃ CT:Nat->Act->World->Prop,CT=fun c=>match c with | 0=>wpList P L.toArray Q (flo::L2) | _=>wpList P L.toArray Q L2:=⟨_,rfl⟩
 refine Pl.greadyC (Ω:=World) (ops:=L.toArray) (nh:=nh) (r:=1) (a0:=a) (w0:=w.drew) (C:=C) rfl (xC P Q) (wpOp P L.toArray Q) (wpAny P .any L.toArray Q) (fun a w=>Q .normal a w) (fun k a w=>wpList P L.toArray Q (L.drop k) a w)
  ?_ (fun i K K' a w hk hs=>wpOp_mono hk hs) (fun listed a w h1 h2=>⟨h1,h2⟩) (fun fuel listed a w h1 h2=>⟨h1,h2⟩) ?_ ?_ hr0 hR hlead hchain hback hB.2 hsz CT ?_ ?_ hnt hC (Pl.walkE_mono ?_ _ _ h)
 ·intro i o K a w ho hs
  unfold wpOp
  simp only [ho]
  split
  ·rename_i hw;rw [if_pos hw] at hs;exact .inl hs
  ·rename_i hw;rw [if_neg hw] at hs;exact hs
 ·intro k a w hk ht
  have hk':k<L.length:=by simpa using hk
  simp only [List.drop_eq_getElem_cons hk',wpList] at ht
  unfold wpOp
  simp only [List.getElem?_toArray,List.getElem?_eq_getElem hk']
  exact ht
 ·intro a w ht
  simpa [wpList] using ht
 ·intro c a w hc ht
  obtain rfl:c=0:=by omega
  rw [hCT] at ht ⊢
  simp only [wpList,if_pos (show Region.wanted flo (yielded L.toArray a.tmps)=true by simp [Region.wanted,hg2])] at ht
  unfold wpOp
  simp only [List.getElem?_toArray,Nat.add_zero,hflo]
  rw [if_pos (show Region.wanted flo (yielded L.toArray a.tmps)=true by simp [Region.wanted,hg2])]
  exact ht
 ·intro a w ht
  rw [hCT] at ht
  show wpList P L.toArray Q (L.drop (nh+2)) a w
  rw [hL2]
  exact ht
 ·rintro env ⟨h1,h2⟩
  refine⟨fun w' hc hk=>?_,fun c hc w' hC' hk=>?_⟩
  ·rw [hd1];exact h1 w' hc hk
  ·obtain rfl:c=0:=by omega
   refine Pl.finG_mono (fun a w h=>?_) _ _ (h2 w' hC' hk)
   unfold wpOp
   simp only [List.getElem?_toArray,hcut]
   rw [if_pos (show Region.wanted cut (yielded L.toArray a.tmps)=true by simp [Region.wanted,hg1]),hCT]
   exact .inl h
end Go.Proofs.YtonhfknjcbakiaaGreatDoor
namespace Go.Proofs.YtonhfknjcbakiaaGreatDoor
open Go.RowKit
theorem zii {P:Program} {nt:Nat} {ms:List Nat} {c:Code} {pc:PC} (hc:qx P nt ms c=some pc) {D0 D:Nat->Nat->Prop} {w0 w:World} (hgl:GL D0 w0) (a:Act) (hfr:Fr ⟨w0,D0,fun _=>False,hgl,a.defers⟩ D w) (hD:∀ b o,D b o->b<w.heap.size) {rb:Nat} (hrb:w0.heap.size<=rb) {x:Value} {p:PV} {e:TypeId} (hbx:w.heap[rb]? = some (.cells #[x] e (0,0))) (hx:Dat D w x p) (hx1:x.oneCell'=true) (hDb:∀ o,¬ D rb o)
 (hsz:a.tmps.size=nt) (ts:List (Nat × PV)) (hts:∀ t,(yr ts t=.bx 0 0/\zB a t=.pointer (some ⟨rb,0,none⟩))\/Dat D w (zB a t) (yr ts t)) (hown:∀ t,(yr ts t).own=none) (hp:p.own=none) {Q:PX->PS->Prop} (hvc:pW P nt True pc Q ⟨ts,[[p]]⟩) :
 c.wp P (QL ⟨w0,D0,fun _=>False,hgl,a.defers⟩ nt Q) a w:=by
 have hso:∀ u q,zQ ⟨D,fun _=>rb⟩ ⟨ts,[[p]]⟩ (zB a) w u q->q.own=none:=by
  rintro u q (⟨t,rfl,rfl⟩ | ⟨i,j,cs,h1,h2,_⟩)
  ·exact hown t
  ·match i,h1 with
   | 0,h1=>
     cases h1
     match j,h2 with
     | 0,h2=>cases h2;exact hp
     | j+1,h2=>simp at h2
   | i+1,h1=>simp at h1
 refine Ql (B:=⟨w0,D0,fun _=>False,hgl,a.defers⟩) (fun _ _ h=>h) c pc hc Q ⟨ts,[[p]]⟩ ⟨D,fun _=>rb⟩ a w hvc ⟨⟨fun t=>?_,fun i cs hi=>?_,fun i j hi hj _=>?_,fun u q h=>zr (hso u q h),fun u q u' q' b h _ ho=>absurd (hso u q h) ho,fun u q b i h ho=>absurd (hso u q h) ho,hD,fun i _ o=>hDb o,hfr⟩,rfl,hsz⟩
 ·show Rel D (fun _=>rb) 1 w (zB a t) (yr ts t)
  rcases hts t with⟨h1,h2⟩ | h
  ·rw [h1,h2];exact .inl (.inr ⟨0,0,rfl,by decide,rfl⟩)
  ·exact .dat h
 ·match i,hi with
  | 0,hi=>
    cases hi
    refine⟨.inl hrb,#[x],e,hbx,rfl,fun j q hq=>?_⟩
    match j,hq with
    | 0,hq=>cases hq;exact⟨.dat hx,hx1⟩
    | j+1,hq=>simp at hq
  | i+1,hi=>simp at hi
 ·simp at hi hj;omega
theorem zih {P:Program} {nt:Nat} {c:Code} (hok:(qx P nt [] c).isSome=true) {D0 D:Nat->Nat->Prop} {w0 w:World} (hgl:GL D0 w0) (a:Act) (hfr:Fr ⟨w0,D0,fun _=>False,hgl,a.defers⟩ D w) (hD:∀ b o,D b o->b<w.heap.size) {rb:Nat} (hrb:w0.heap.size<=rb) {x:Value} {p:PV} {e:TypeId} (hbx:w.heap[rb]? = some (.cells #[x] e (0,0))) (hx:Dat D w x p) (hx1:x.oneCell'=true) (hDb:∀ o,¬ D rb o)
 (hsz:a.tmps.size=nt) (ts:List (Nat × PV)) (hts:∀ t,(yr ts t=.bx 0 0/\zB a t=.pointer (some ⟨rb,0,none⟩))\/Dat D w (zB a t) (yr ts t)) (hown:∀ t,(yr ts t).own=none) (hp:p.own=none) {Q:PX->PS->Prop} (hvc:pW P nt True ((qx P nt [] c).getD .sk) Q ⟨ts,[[p]]⟩) :
 c.wp P (QL ⟨w0,D0,fun _=>False,hgl,a.defers⟩ nt Q) a w:=by
 obtain⟨pc,hpc⟩:=Option.isSome_iff_exists.1 hok
 rw [hpc] at hvc
 exact zii hpc hgl a hfr hD hrb hbx hx hx1 hDb hsz ts hts hown hp hvc
theorem zfM {P:Program} {fn:Func} {nt:Nat} {x y:RV} {B:Bs} (hr:yc P fn.results.toList=some [x,y]) {p q:PV} {e:Exit} {a:Act} {w:World} (h:QL B nt (jG [x,y] (.tup [p,q])) e a w) :
 (e=.normal\/e=.ret)/\a.defers=B.df/\∃(v:Value) (D':Nat->Nat->Prop),(results fn a.tmps).run P w=.ok v w/\Fr B D' w/\(∀ b o,D' b o->b<w.heap.size)/\Dat D' w v (.tup [p,q]):=by
 have key:∀ s g,RA B nt g s a w->jC [x,y] s (.tup [p,q])->a.defers=B.df/\∃(v:Value) (D':Nat->Nat->Prop),(results fn a.tmps).run P w=.ok v w/\Fr B D' w/\(∀ b o,D' b o->b<w.heap.size)/\Dat D' w v (.tup [p,q]):=by
  intro s g hRA hret
  obtain⟨hR,hdf,_⟩:=hRA
  have hret':(match YJ s [x,y] with | some ps=>ps.all PV.resD=true/\SubP 0 (.tup (ps.map PV.sh)) (.tup [p,q]) | none=>False):=by cases x<;>exact hret
  have hl2:∀ {rs ps'},YJ s rs=some ps'->ps'.length=rs.length:=by
   intro rs
   induction rs with
   | nil=>intro ps' h;cases h;rfl
   | cons x l ih=>
     intro ps' h
     simp only [YJ,Option.bind_eq_some_iff,Option.map_eq_some_iff] at h
     obtain⟨p,_,qs,hq,rfl⟩:=h
     simp [ih hq]
  cases hp:YJ s [x,y] with
  | none=>rw [hp] at hret';exact hret'.elim
  | some ps'=>
    rw [hp] at hret'
    obtain⟨h1,h2⟩:=hret'
    obtain⟨us,k1,k2,_,k3⟩:=Kj hR hr hp h1
    have hl:us.length=2:=by rw [k2,hl2 hp];rfl
    match us,hl with
    | [u1,u2],_=>
      refine⟨hdf,.tuple #[u1,u2],g.D,xZ fn _ k1,hR.fr,hR.dlt,ze2 (ρ:=g.ρ) (SubP.rel h2 (nb:=0) (.dat (.tup _ _ (by simp [<-k2]) fun i p hp=>?_)))⟩
      simp only [List.getElem?_map,Option.map_eq_some_iff] at hp
      obtain⟨q,hq,rfl⟩:=hp
      have:=k3 i q hq
      simpa [List.getD_eq_getElem?_getD] using this
 cases e with
 | normal=>obtain⟨s,g,h1,h2⟩:=h;exact⟨.inl rfl,key s g h1 h2⟩
 | ret=>obtain⟨s,g,h1,h2⟩:=h;exact⟨.inr rfl,key s g h1 h2⟩
 | exit id=>obtain⟨s,g,h1,h2⟩:=h;exact h2.elim
 | goto l=>exact h.elim
 | panic ch=>exact h.elim
 | outgrown=>exact h.elim
def zgV (P:Program) (nt:Nat) (ms:List Nat) (id:Nat) (ops:Array Oper) (draw:Bool):PC:=(qx P nt ms (.region id ops draw)).getD .sk
def zgW (c:Operand):PO:=(po c).getD (.c .und)
def pcT (P:Program) (nt:Nat) (ms:List Nat) (k:Nat) (X:PC):Code->PC
 | .region id ops draw=>if id=k then X else zgV P nt ms id ops draw
 | .seq a b=>.sq (pcT P nt ms k X a) (pcT P nt ms k X b)
 | .cond c a b=>.cd (zgW c) (pcT P nt ms k X a) (pcT P nt ms k X b)
 | .block id a=>.bk id (pcT P nt ms k X a)
 | .loop a=>.lp [] (pcT P nt ms k X a)
 | .exit id=>.ex id
 | .ret=>.rt
 | .scope a=>pcT P nt ms k X a
 | _=>.sk
theorem zhs {P:Program} {f:FuncId} {fn:Func} (hf:P.funcs[f]? = some fn) (ms:List Nat) {ps:List PV} {r:PV} (n:Nat) (hok:zbo P fn ms n=true) (hl:ps.length=n) (hps:∀ p ∈ ps,p.own=none) (k:Nat) (X:PC) {c:Code} (hc:xN fn=c) (hx:qx P fn.ntmps ms c=some (pcT P fn.ntmps ms k X c)) (hvc:pW P fn.ntmps True (pcT P fn.ntmps ms k X c) (jG (zgk P fn) r) ⟨qQ 0 ps,[]⟩):Cn P f ps r:=by
 refine zgM hf ms n hok hl hps ?_
 unfold zbt
 rw [hc,hx,Option.getD_some]
 exact hvc
attribute [local go_sem] Oper.semAt_some
end Go.Proofs.YtonhfknjcbakiaaGreatDoor
