import Derived.Test.YtonhfknjcbakiaaGreatDoorB21
import Derived.Test.YtonhfknjcbakiaaGreatDoorB22
import Derived.Test.YtonhfknjcbakiaaGreatDoorB23
import Derived.Test.YtonhfknjcbakiaaGreatDoorB24
import Derived.Test.YtonhfknjcbakiaaGreatDoorB38
import Derived.Test.YtonhfknjcbakiaaGreatDoorB39
import Derived.Test.YtonhfknjcbakiaaGreatDoorB40
set_option maxHeartbeats 16000000
set_option linter.unusedVariables false
set_option linter.unusedSimpArgs false
set_option maxRecDepth 100000
namespace Go.Proofs.YtonhfknjcbakiaaGreatDoor
open Go.RowKit
theorem zap (xs:List Nat) (x:Nat) (hl:(srt xs).length<=4194304):Cn Tryz.prog 145 [ns (srt xs),.v (.int .u64 x)] (ns (srt (xs++[x]))):=by
 refine yZ rfl (enters_of Tryz.func145 (by kernel_rfl) rfl) fun D w vs hG hD hsz hd=>?_
 rw [zeJ hsz,(hd 1 _ rfl).v_inv]
 refine(zbw D xs x _ w hl (hd 0 _ rfl) hD).mono ?_
 rintro e w' ⟨v,rfl,hb,hv⟩
 exact⟨v,rfl,hb,hv⟩
theorem VW {v:List En} {xs:List Nat} {k:Nat} (hv:v.length<=1048576) (hx:xs.length<=1048576):(srt (xs++zM (v.take k))).length<=4194304:=by
 have h1:=ju (xs++zM (v.take k))
 have h2:(v.take k).length<=1048576:=Nat.le_trans (List.length_take_le' _ _) hv
 simp only [zM,List.length_append,List.length_map] at h1 h2
 simp only [zM]
 omega
theorem YH {v:List En} {k:Nat} (h:k<v.length):zM (v.take (k+1))=zM (v.take k)++[v[k].rep]:=by
 unfold zM
 rw [List.take_succ_eq_append_getElem h,List.map_append]
 rfl
theorem zcC (a b:List En) (op:Nat) (ho:op<3) (ha:SmV a) (hb:SmV b):Cn Tryz.prog 96 [vp a,vp b,.v (.int .i64 op)] (vp (ks (Qj op) a b)):=by
 have la:=ha.2.1
 have lb:=hb.2.1
 have h0:Qj op false false=false:=by
  match op,ho with
  | 0,_=>rfl
  | 1,_=>rfl
  | 2,_=>rfl
 refine zhs Tryz.func96 [] 3 (by kernel_rfl) rfl (by simp [go_sem,seval]) 14 (.dr [⟨(some 47),none,(.mv (.t 7))⟩,⟨(some 48),none,(.mv (.t 11))⟩,⟨(some 49),none,(.ia (.t 47) (.t 48) 1)⟩,⟨(some 50),none,(.ld (.t 49) false 1)⟩,⟨(some 51),none,(.mv (.t 0))⟩,⟨(some 52),none,(.mv (.t 7))⟩,⟨(some 53),none,(.mv (.t 11))⟩,⟨(some 54),none,(.ia (.t 52) (.t 53) 1)⟩,⟨(some 55),none,(.ld (.t 54) false 1)⟩,⟨(some 56),none,(.ca 148 [(.t 51),(.t 55)])⟩,⟨(some 57),none,(.mv (.t 1))⟩,⟨(some 58),none,(.mv (.t 7))⟩,⟨(some 59),none,(.mv (.t 11))⟩,⟨(some 60),none,(.ia (.t 58) (.t 59) 1)⟩,⟨(some 61),none,(.ld (.t 60) false 1)⟩,⟨(some 62),none,(.ca 148 [(.t 57),(.t 61)])⟩,⟨(some 63),none,(.mv (.t 2))⟩,⟨(some 64),none,(.ca 147 [(.t 56),(.t 62),(.t 63)])⟩,⟨(some 65),none,(.ca 146 [(.t 50),(.t 64)])⟩,⟨(some 46),none,(.mv (.t 65))⟩,⟨(some 66),none,(.ex (.t 46) 0)⟩,⟨(some 67),none,(.ex (.t 46) 1)⟩] [⟨(some 12),none,(.al [(.v (.int .u64 0)),(.v (.int .u64 0)),(.sl [] .sh)])⟩,⟨none,none,(.st (.t 12) (.t 66) 3)⟩,⟨(some 13),none,(.mv (.t 67))⟩]) rfl (by kernel_rfl) ?_
 conv=>enter [4,6];(unfold xN;simp only [Tryz.f96])
 simp only [pcT,Nat.reduceEqDiff,if_false,if_true,reduceIte]
 repeat (conv in (zgV _ _ _ _ _ _)=>cbv)
 repeat (conv in (zgW _)=>cbv)
 conv=>enter [5,1];cbv
 refine pw ?_
 refine pLoop.go (fun k=>k<=a.length) (fun k=>[(7,ns (srt ([]++zM (a.take k)))),(8,.v (.int .i64 (k:Nat)))]) (fun _=>[]) (fun k=>a.length - k) 0 [7,8] ?_ ?_ ?_
 ·exact Nat.zero_le _
 ·simp only [List.take_zero,zM,List.map_nil,List.append_nil,XB]
  exact pd
 ·rintro k hk
  refine pw ?_
  refine .i ?_ ?_<;>intro h<;>(try simp only [zb] at h)<;>first | refine pw ?_ | exact pd
  ·refine .c (zap ([]++zM (a.take k)) a[k].rep (VW (xs:=[]) la (by simp))) ?_
   refine⟨k+1,h,by omega,?_,rfl⟩
   rw [YH h]
  ·rw [show k=a.length by omega,List.take_length]
   refine pLoop.go (fun k=>k<=b.length) (fun k=>[(7,ns (srt (zM a++zM (b.take k)))),(9,.v (.int .i64 (k:Nat)))]) (fun _=>[]) (fun k=>b.length - k) 0 [7,9] ?_ ?_ ?_
   ·exact Nat.zero_le _
   ·simp only [List.take_zero,zM,List.map_nil,List.append_nil]
    exact pd
   ·rintro k hk
    refine pw ?_
    refine .i ?_ ?_<;>intro h2<;>(try simp only [zb] at h2)<;>first | refine pw ?_ | exact pd
    ·refine .c (zap (zM a++zM (b.take k)) b[k].rep (VW (xs:=zM a) lb (by simp [zM];omega))) ?_
     refine⟨k+1,h2,by omega,?_,rfl⟩
     rw [YH h2,List.append_assoc]
    ·rw [show k=b.length by omega,List.take_length]
     obtain⟨L,hL⟩:∃ L,L=srt (zM a++zM b):=⟨_,rfl⟩
     have hll:L.length<=2097152:=by
      have h1:=ju (zM a++zM b)
      simp only [zM,List.length_append,List.length_map] at h1
      rw [hL]
      simp only [zM]
      omega
     have hlm:∀ r ∈ L,r<M64:=by rw [hL];exact Xr ha.1 hb.1
     have hlat:ks (Qj op) a b=L.filterMap (vE (Qj op) a b):=by rw [hL];rfl
     rw [<-hL,hlat]
     clear hlat hL
     refine pLoop.go (fun k=>k<=L.length) (fun k=>[(10,.sl (((L.take k).filterMap (vE (Qj op) a b)).map ec) (.r 72 3)),(11,.v (.int .i64 (k:Nat)))]) (fun _=>[]) (fun k=>L.length - k) 0 [10,11,72] ?_ ?_ ?_
     ·exact Nat.zero_le _
     ·simp only [List.take_zero,List.filterMap_nil,List.map_nil]
      exact pd
     ·rintro k hk
      have hfl:((L.take k).filterMap (vE (Qj op) a b)).length<=k:=Nat.le_trans (List.length_filterMap_le _ _) (by simp;omega)
      refine pw ?_
      refine .i ?_ ?_<;>intro h3<;>(try simp only [zb] at h3)<;>first | refine pw ?_ | exact pd
      ·have ka:=qS ha L[k]
       have kb:=qS hb L[k]
       have hol:(qy (Qj op) (zT a L[k]) (zT b L[k])).length<=80100:=by
        have h1:=xR (Qj op) (zT a L[k]) (zT b L[k])
        omega
       have hof:=zg1 L[k] (qy (Qj op) (zT a L[k]) (zT b L[k])) (qH ka.1 kb.1) (by omega)
       have hst:=KZ (f:=Qj op) (a:=a) (b:=b) h3
       obtain⟨e,ok,hE⟩:∃ e ok,Qi L[k] (qy (Qj op) (zT a L[k]) (zT b L[k]))=(e,ok):=⟨_,_,rfl⟩
       rw [zac hE] at hst
       rw [hE] at hof
       refine .c (kD a L[k] ha) ?_
       refine .c (kD b L[k] hb) ?_
       refine .c (zhw (zT a L[k]) (zT b L[k]) op ka.1 kb.1 ho (by omega) (by omega)) ?_
       cases ok with
       | true=>
         (first | refine .c (hof) ?_ | refine .o (hof) ?_)
         refine⟨k+1,h3,by omega,?_,rfl⟩
         rw [hst]
         simp
         rfl
       | false=>
         (first | refine .c (hof) ?_ | refine .o (hof) ?_)
         refine⟨k+1,h3,by omega,?_,rfl⟩
         rw [hst]
         simp
      ·rw [show k=L.length by omega,List.take_length]
theorem SmV.g {v:List En} (h:SmV v):v.length<=1152921504606846976/\∀ e ∈ v,e.holes.length<=1152921504606846976:=⟨by have:=h.2.1;omega,fun e he=>by have:=h.2.2 e he;omega⟩
theorem WV.smv {C:Nat->List Nat} {R:List Nat} {v:List En} (h:WV C R v) (ok:OkC C R):SmV v:=(h.bv ok.1 ok.2).mono (Nat.le_refl _) (by omega)
theorem zfh {k:List Fg} (h:vx k=true) (hr:RightK k) {f:Fg} (hf:f ∈ k):SmV f.vec:=by
 have:=vw.1 ((Z3.1 h).1 f hf).2
 exact⟨(hr f hf).2,by omega,fun e he=>by have:=this.1 e he;omega⟩
theorem kH {D:Nat->Nat->Prop} {w:World} {x:Value} {es:List (List PV)} {o:Ow} (h:Dat D w x (.sl es o)):∃ s:Sv,x=sv s/\s.2.1=es.length:=by
 obtain⟨ad,cap,sz,b,off,f,e1,_⟩:=(Rel.dat (ρ:=fun _=>0) (nb:=0) h).inv_sl
 exact⟨(ad,es.length,cap),e1,rfl⟩
theorem kX {D:Nat->Nat->Prop} {n0:Nat} {w:World} {v:Value} {k:List Fg} (h:Dat D w v (kp k)) (hD:∀ b o,D b o->b<n0) :
 ∃ a cap fs,v=.slice a k.length cap/\∃ hl:fs.length=k.length,zeF n0 w a cap fs/\∀ i (h:i<fs.length),Dat D w (sv fs[i].1) (rg (k[i]'(hl ▸ h)).items)/\Dat D w (sv fs[i].2) (vp (k[i]'(hl ▸ h)).vec):=by
 unfold kp at h
 generalize he:k.map fc=es at h
 cases h with
 | sl a cap sz es o b off u hc hz hm ha hsz hd hx=>
   have hl:es.length=k.length:=by rw [<-he];simp
   have g:∀ i (h:i<k.length),es[i]? = some (fc k[i]):=fun i h=>by rw [<-he];exact xo h
   have each:∀ i,i<k.length->∃ f:Fv,∀ h:i<k.length,(sz=2/\u (i * 2)=sv f.1/\u (i * 2+1)=sv f.2)/\Dat D w (sv f.1) (rg k[i].items)/\Dat D w (sv f.2) (vp k[i].vec):=fun i hi=>by
    obtain rfl:2=sz:=hsz i _ (g i hi)
    have d0:Dat D w (u (i * 2+0)) (rg k[i].items):=hx i _ 0 _ (g i hi) rfl
    have d1:Dat D w (u (i * 2+1)) (vp k[i].vec):=hx i _ 1 _ (g i hi) rfl
    obtain⟨s0,e0,_⟩:=kH d0
    obtain⟨s1,e1,_⟩:=kH d1
    rw [e0] at d0
    rw [e1] at d1
    exact⟨(s0,s1),fun _=>⟨⟨rfl,e0,e1⟩,d0,d1⟩⟩
   obtain⟨F,hF⟩:=Go.Deep.choose_lt each
   refine⟨a,cap,(List.range k.length).map F,by rw [hl],by simp,⟨by simp;omega,hm,fun hne=>?_⟩,fun i hi=>?_⟩
   ·have hpos:0<k.length:=by
     rcases Nat.eq_zero_or_pos k.length with h0 | h0
     ·rw [h0] at hne;simp at hne
     ·exact h0
    obtain⟨⟨rfl,_⟩,_⟩:=hF 0 hpos hpos
    have hes:es≠[]:=by intro e;subst e;simp at hl;omega
    refine⟨b,off,ha hes,hD _ _ (hd 0 (by omega)).1,fun i hi=>?_⟩
    have hi':i<k.length:=by simpa using hi
    obtain⟨⟨_,e0,e1⟩,_⟩:=hF i hi' hi'
    have c0:=(hd (i * 2) (by omega)).2.1
    have c1:=(hd (i * 2+1) (by omega)).2.1
    rw [e0] at c0
    rw [e1] at c1
    simp only [List.getElem_map,List.getElem_range]
    exact⟨c0,c1⟩
   ·have hi':i<k.length:=by simpa using hi
    simp only [List.getElem_map,List.getElem_range]
    exact(hF i hi' hi').2
theorem zez {hit:Nat->Bool} {p:Nat × Fv}:∀ {l:List Fv} {n:Nat},p ∈ wl hit n l->∃ h:p.1 - n<l.length,n<=p.1/\p.2=l[p.1 - n]/\hit p.1=true
 | [],n,h=>by cases h
 | f::l,n,h=>by
   unfold wl at h
   have rst:p ∈ wl hit (n+1) l->∃ h:p.1 - n<(f::l).length,n<=p.1/\p.2=(f::l)[p.1 - n]/\hit p.1=true:=fun h=>by
    obtain⟨h1,h2,h3,h4⟩:=zez h
    refine⟨by simp;omega,by omega,?_,h4⟩
    rw [h3]
    have e:p.1 - n=(p.1 - (n+1))+1:=by omega
    simp only [e,List.getElem_cons_succ]
   split at h
   ·rename_i hh
    rcases List.mem_cons.1 h with rfl | h
    ·exact⟨by simp,Nat.le_refl _,by simp,hh⟩
    ·exact rst h
   ·exact rst h
theorem Yp {α:Type} {k:List Fg} {fs:List Fv} (hl:fs.length=k.length) (item:Nat) (step:α->Nat->Fg->α) (a0:α) :
 (wl (fun j=>mem (k.getD j default).items item) 0 fs).foldl (fun a p=>step a p.1 (k.getD p.1 default)) a0=(qd item 0 k).foldl (fun a p=>step a p.1 p.2) a0:=by
 have key:∀ j,j<=k.length->(wl (fun j=>mem (k.getD j default).items item) 0 (fs.take j)).foldl (fun a p=>step a p.1 (k.getD p.1 default)) a0=(qd item 0 (k.take j)).foldl (fun a p=>step a p.1 p.2) a0:=by
  intro j
  induction j with
  | zero=>intro _;rfl
  | succ j ih=>
    intro hj
    rw [XF (by omega),j9 item (by omega),List.foldl_append,List.foldl_append,ih (by omega)]
    have e:k.getD j default=k[j]:=by simp [List.getD_eq_getElem?_getD,List.getElem?_eq_getElem (show j<k.length by omega)]
    simp only [e]
    split
    ·show step _ j (k.getD j default)=step _ j k[j]
     rw [e]
    ·rfl
 have:=key k.length (Nat.le_refl _)
 rwa [<-hl,List.take_length,hl,List.take_length] at this
def V8 (k:List Fg) (i:Nat):PV:=.fn (.func 110) [] [.cp [kp k] 0,.cp [.v (.int .u64 i)] 0]
def zmf (k:List Fg):PV:=.fn (.func 113) [] [.cp [kp k] 0]
attribute [go_sem] V8 zmf
theorem zfB (k:List Fg) (i:Nat):Cn Tryz.prog 63 [kp k,.v (.int .u64 i)] (V8 k i):=by
 refine zt Tryz.func63 2 ?_
 exact pd
theorem zjy (v:List En) (i:Nat) (f:Fg) (hv:SmV v) (hf:SmV f.vec):Cn Tryz.prog 64 [vp v,.v (.int .i64 i),fp f] (vp (ks zn v f.vec)):=by
 refine zt Tryz.func64 3 ?_
 refine pw ?_
 exact .d (zdc v f.vec hv hf)
def InvD {α:Type} (D0:Nat->Nat->Prop) (n:Nat) (pv:α->PV) (P:α->Prop) (W:World) (u:Value) (a:α):Prop:=
 P a/\∃ D:Nat->Nat->Prop,GL D W/\(∀ b o,D b o->b<W.heap.size/\b≠n/\b≠n+2/\b≠n+3)/\(∀ b o,D b o->D0 b o\/n<=b)/\(∀ b o,D0 b o->D b o)/\Dat D W u (pv a)
section
variable {α:Type} {D0:Nat->Nat->Prop} {pv:α->PV} {P:α->Prop} {w W A B:World} {u:Value} {a:α}
theorem InvD.start {u0:Value} (h0:Dat D0 w u0 (.sl [] .sh)) (hG:GL D0 w) (hD:∀ b o,D0 b o->b<w.heap.size) (hb:Below w.heap.size w W) (hP:P a) (hp:pv a=.sl [] .sh):InvD D0 w.heap.size pv P W u0 a:=by
 have hw:∀ b o x,D0 b o->w.cell? ⟨b,o,none⟩=some x->W.cell? ⟨b,o,none⟩=some x:=fun b o x hd hx=>(hb.cell (p:=⟨b,o,none⟩) (hD b o hd)).trans hx
 refine⟨hP,D0,hG.mono (fun _ _ h=>h) hw,fun b o h=>?_,fun _ _ h=>.inl h,fun _ _ h=>h,?_⟩
 ·have:=hD b o h
  have:=hb.size
  exact⟨by omega,by omega,by omega,by omega⟩
 ·rw [hp]
  exact h0.mono (fun _ _ h=>h) hw
theorem InvD.shape {n:Nat} (h:InvD D0 n pv P W u a) (hp:∃ es,pv a=.sl es .sh):∃ ad n c,u=.slice ad n c:=by
 obtain⟨_,D,_,_,_,_,hd⟩:=h
 obtain⟨es,e⟩:=hp
 rw [e] at hd
 obtain⟨s,rfl,_⟩:=kH hd
 exact⟨_,_,_,rfl⟩
theorem InvD.keep {n:Nat} (h:InvD D0 n pv P A u a) (hk:Keep (fun k=>k=n\/k=n+2\/k=n+3) A B):InvD D0 n pv P B u a:=by
 obtain⟨hP,D,h1,h2,h3,h4,h5⟩:=h
 have hw:∀ b o x,D b o->A.cell? ⟨b,o,none⟩=some x->B.cell? ⟨b,o,none⟩=some x:=fun b o x hd hx=>
  (World.cell?_of_block (a:=⟨b,o,none⟩) (hk.block b (h2 b o hd).1 (by have:=h2 b o hd;omega))).trans hx
 exact⟨hP,D,h1.mono (fun _ _ h=>h) hw,fun b o hd=>⟨Nat.lt_of_lt_of_le (h2 b o hd).1 hk.size,(h2 b o hd).2⟩,h3,h4,h5.mono (fun _ _ h=>h) hw⟩
theorem zhD {D:Nat->Nat->Prop} {f:Fv} {g:Fg} (h0:Dat D w (sv f.1) (rg g.items)) (h1:Dat D w (sv f.2) (vp g.vec)):Dat D w (.agg #[sv f.1,sv f.2]) (fp g):=by
 refine .agg _ _ rfl (fun i hi=>?_) fun i p hp=>?_
 ·match i,hi with
  | 0,_=>rfl
  | 1,_=>rfl
 ·match i,hp with
  | 0,hp=>cases hp;exact h0
  | 1,hp=>cases hp;exact h1
  | i+2,hp=>simp [fc] at hp
theorem InvD.step {F1:FuncId} {i:Nat} {f:Fv} {g:Fg} {a':α} (h:InvD D0 w.heap.size pv P W u a) (hD:∀ b o,D0 b o->b<w.heap.size) (hb:Below w.heap.size w W) (hs:w.heap.size+4<=W.heap.size) (h0:Dat D0 w (sv f.1) (rg g.items)) (h1:Dat D0 w (sv f.2) (vp g.vec))
 (hc:Cn Tryz.prog F1 [pv a,.v (.int .i64 i),fp g] (pv a')) (hP:P a') :
 Calls Tryz.prog F1 #[u,.int .i64 (i:Nat),.agg #[sv f.1,sv f.2]] W fun e W'=>∃ u',e=.returned u'/\InvD D0 w.heap.size pv P W' u' a'/\Keep (zaB (w.heap.size+4) W) W W':=by
 obtain⟨_,D,g1,g2,g3,g4,g5⟩:=h
 have hw:∀ b o x,D0 b o->w.cell? ⟨b,o,none⟩=some x->W.cell? ⟨b,o,none⟩=some x:=fun b o x hd hx=>(hb.cell (p:=⟨b,o,none⟩) (hD b o hd)).trans hx
 refine(jP hc g1 (fun b o h=>(g2 b o h).1) rfl (fun j p hp=>?_)).mono ?_
 ·match j,hp with
  | 0,hp=>cases hp;exact g5
  | 1,hp=>cases hp;exact .v _
  | 2,hp=>cases hp;exact(zhD h0 h1).mono g4 hw
  | j+3,hp=>simp at hp
 ·rintro e W' ⟨v,rfl,hb',hd⟩
  refine⟨v,rfl,⟨hP,_,g1.mono (fun _ _ h=>.inl h) fun b o x hd hx=>(hb'.cell (p:=⟨b,o,none⟩) (g2 b o hd).1).trans hx,fun b o h=>?_,fun b o h=>?_,fun b o h=>.inl (g4 b o h),hd⟩,Keep.of_below' hb' (Nat.le_refl _)⟩
  ·rcases h with h | h
   ·exact⟨Nat.lt_of_lt_of_le (g2 b o h).1 hb'.size,(g2 b o h).2⟩
   ·exact⟨h.2,by omega,by omega,by omega⟩
  ·rcases h with h | h
   ·exact g3 b o h
   ·exact .inr (by omega)
theorem InvD.done (h:InvD D0 w.heap.size pv P W u a):Dat (fun b o=>D0 b o\/(w.heap.size<=b/\b<W.heap.size)) W u (pv a):=by
 obtain⟨_,D,g1,g2,g3,g4,g5⟩:=h
 exact g5.mono (fun b o h=>(g3 b o h).imp id fun h'=>⟨h',(g2 b o h).1⟩) fun _ _ _ _ h=>h
end
theorem zcx {D:Nat->Nat->Prop} {w:World} {x:Value} {p:PV} (h:Dat D w x (.cp [p] 0)):∃ b o y,x=.pointer (some ⟨b,o,none⟩)/\D b o/\w.cell? ⟨b,o,none⟩=some y/\Dat D w y p:=by
 obtain⟨b,off,f,e,h1,h2⟩:=(Rel.dat (ρ:=fun _=>0) (nb:=0) h).inv_cp
 have:=h1 0 (by simp)
 exact⟨b,off,f 0,e,by simpa using this.1,by simpa using this.2.1,h2 0 p rfl⟩
theorem zbU {D:Nat->Nat->Prop} {w:World} {x:Value} {k:List Fg} {i:Nat} (h:Dat D w x (V8 k i)):∃ bk ok bi oi v,x=.func (.func 110) #[] #[.pointer (some ⟨bk,ok,none⟩),.pointer (some ⟨bi,oi,none⟩)]/\D bk ok/\D bi oi/\w.cell? ⟨bk,ok,none⟩=some v/\w.cell? ⟨bi,oi,none⟩=some (.int .u64 (i:Nat))/\Dat D w v (kp k):=by
 unfold V8 at h
 cases h with
 | fn f va vb fs cs h1 h2 h3 h4=>
   rw [Array.size_eq_zero_iff.1 h1]
   obtain⟨l⟩:=vb
   match l,h2 with
   | [y,z],_=>
     obtain⟨bk,ok,v,e1,d1,c1,q1⟩:=zcx (h4 0 _ rfl)
     obtain⟨bi,oi,u,e2,d2,c2,q2⟩:=zcx (h4 1 _ rfl)
     rw [q2.v_inv] at c2
     simp at e1 e2
     subst e1 e2
     exact⟨bk,ok,bi,oi,v,rfl,d1,d2,c1,c2,q1⟩
theorem zfQ {D:Nat->Nat->Prop} {w:World} {x:Value} (h:Dat D w x (.sl [] .sh)):∃ ad c,x=.slice ad 0 c:=by
 obtain⟨⟨a,n,c⟩,rfl,e⟩:=kH h
 simp only [List.length_nil] at e
 subst e
 exact⟨a,c,rfl⟩
def SzK (k:List Fg):Prop:=k.length<=1152921504606846976/\∀ f ∈ k,f.items.length<=1152921504606846976/\f.vec.length<=1152921504606846976/\∀ e ∈ f.vec,e.holes.length<=1152921504606846976
theorem YM {D:Nat->Nat->Prop} {w:World} {k:List Fg} {i bk ok bi oi:Nat} {a:Option Addr} {cap:Nat} {fs:List Fv} (hr:RightK k) (hz:SzK k) (hG:GL D w) (hD:∀ b o,D b o->b<w.heap.size) (d1:D bk ok) (d2:D bi oi) (c1:w.cell? ⟨bk,ok,none⟩=some (.slice a k.length cap)) (c2:w.cell? ⟨bi,oi,none⟩=some (.int .u64 (i:Nat)))
 (hl:fs.length=k.length) (hrow:zeF w.heap.size w a cap fs) (hfs:∀ j (h:j<fs.length),Dat D w (sv fs[j].1) (rg (k[j]'(hl ▸ h)).items)/\Dat D w (sv fs[j].2) (vp (k[j]'(hl ▸ h)).vec)) {W:World} (hb:Below w.heap.size w W) :
 v7 Tryz.prog 110 #[.pointer (some ⟨bk,ok,none⟩),.pointer (some ⟨bi,oi,none⟩)] Y4 (fun _=>False) (PtF w.heap.size bk bi) (wl (fun j=>mem (k.getD j default).items i) 0 fs) W:=by
 have hw:∀ b o x,D b o->w.cell? ⟨b,o,none⟩=some x->W.cell? ⟨b,o,none⟩=some x:=fun b o x hd hx=>(hb.cell (p:=⟨b,o,none⟩) (hD b o hd)).trans hx
 refine zew fs _ a cap bk ok bi oi w.heap.size i W ?_ (by rw [hl];exact hw _ _ _ d1 c1) (hw _ _ _ d2 c2) hb.size fun w' j hj hlow hsz=>?_
 ·obtain⟨h1,h2,h3⟩:=hrow
  refine⟨h1,h2,fun hne=>?_⟩
  obtain⟨b,off,e1,e2,e3⟩:=h3 hne
  exact⟨b,off,e1,e2,fun j hj=>⟨(hb.cell (p:=⟨b,off+j * 2,none⟩) e2).trans (e3 j hj).1,(hb.cell (p:=⟨b,off+j * 2+1,none⟩) e2).trans (e3 j hj).2⟩⟩
 ·have hw':∀ b o x,D b o->w.cell? ⟨b,o,none⟩=some x->w'.cell? ⟨b,o,none⟩=some x:=fun b o x hd hx=>(World.cell?_of_block (a:=⟨b,o,none⟩) (hlow b (hD b o hd))).trans (hw b o x hd hx)
  have hj':j<k.length:=hl ▸ hj
  have hm:=List.getElem_mem hj'
  have e:k.getD j default=k[j]:=by rw [List.getD_eq_getElem?_getD,List.getElem?_eq_getElem hj'];rfl
  simp only [e]
  refine(jP (ziQ k[j].items i (hr _ hm).1 (hz.2 _ hm).1) (hG.mono (fun _ _ h=>h) hw') (fun b o h=>Nat.lt_of_lt_of_le (hD b o h) hsz) rfl (fun t p hp=>?_)).mono ?_
  ·match t,hp with
   | 0,hp=>cases hp;exact(hfs j hj).1.mono (fun _ _ h=>h) hw'
   | 1,hp=>cases hp;exact .v _
   | t+2,hp=>simp at hp
  ·rintro e W' ⟨v,rfl,hb',hd⟩
   rw [hd.v_inv]
   exact⟨rfl,hb'⟩
def is (l:List Nat):PV:=.sl (l.map fun x=>[.v (.int .i64 (x:Nat))]) .sh
attribute [go_sem] is
theorem zfl {k:List Fg} {j:Nat} (h:j<k.length):k.getD j default=k[j]:=by rw [List.getD_eq_getElem?_getD,List.getElem?_eq_getElem h];rfl
theorem zf9 {α:Type} {pre xs:List α} {p:α} (h:pre++[p] <+: xs):p ∈ xs:=h.subset (by simp)
theorem zfk {C:Nat->List Nat} {R:List Nat} (k:List Fg) (i:Nat) (hk:IK C R k) (ok:OkC C R) (hr:RightK k) (hs:∀ f ∈ k,SmV f.vec) (hz:SzK k) :
 Cn Tryz.prog 62 [V8 k i,.sl [] .sh,.fn (.func 64) [] []] (vp (qc k i)):=by
 refine yZ rfl (enters_of Tryz.func62 (by kernel_rfl) rfl) fun D w vs hG hD hsz hd=>?_
 obtain⟨bk,ok',bi,oi,v,e0,d1,d2,c1,c2,hkv⟩:=zbU (hd 0 _ rfl)
 obtain⟨a,cap,fs,rfl,hl,hrow,hfs⟩:=kX hkv hD
 have hn0:=hd 1 _ rfl
 obtain⟨ad0,c0',e1⟩:=zfQ hn0
 rw [e1] at hn0
 rw [zjx hsz,e0,e1,zcA (hd 2 _ rfl)]
 refine(X8 110 _ bk bi _ w ad0 c0' (enters_of Tryz.func110 (by kernel_rfl) rfl) (fun W hb=>YM hr hz hG hD d1 d2 c1 c2 hl hrow hfs hb) (hD _ _ d1) (hD _ _ d2)
  (InvD D w.heap.size vp (WV C R)) (fun o p=>ks zn o (k.getD p.1 default).vec) [] (fun W hb=>InvD.start hn0 hG hD hb WV.nil rfl) (fun W u a h=>h.shape ⟨_,rfl⟩) (fun A B u a h hk=>h.keep hk) fun W u pre p hpre hs4 hb h=>?_).mono ?_
 ·obtain⟨hp1,_,hp3,_⟩:=zez (zf9 hpre)
  have hj:p.1<fs.length:=by simpa using hp1
  have hj':p.1<k.length:=hl ▸ hj
  have hm:=List.getElem_mem hj'
  have q:=hfs p.1 hj
  have e:p.2=fs[p.1]:=by rw [hp3];simp
  rw [zfl hj',e]
  exact h.step hD hb hs4 q.1 q.2 (zjy _ p.1 k[p.1] (h.1.smv ok) (hs _ hm)) (h.1.iv.lat fU0 (hk _ hm))
 ·rintro e w' ⟨u,rfl,hI,hb⟩
  have h:=hI.done
  rw [Yp hl i (fun o _ f=>ks zn o f.vec) []] at h
  exact⟨u,rfl,hb,h⟩
theorem zdx {D:Nat->Nat->Prop} {base:Nat} {w:World} {v:Value} {l:List Nat} (h:OwnI base w v l) (hD:∀ b o,base<=b->b<w.heap.size->D b o):Dat D w v (is l):=by
 unfold is
 have hlen:(l.map fun x=>[PV.v (.int .i64 (x:Nat))]).length=l.length:=by simp
 rcases id h.2 with⟨rfl,h0⟩ | ⟨g,cap,cur,rfl,hg,hh,hn,hc,_⟩
 ·obtain rfl:l=[]:=List.length_eq_zero_iff.1 h0
  exact .sl none 0 1 [] .sh 0 0 (fun _=>undef) (by simp) (fun h=>by cases h) (by unfold maxLen;omega) (fun h=>absurd rfl h) (fun i e h=>by simp at h) (fun j h=>by simp at h) (fun i e j p h=>by simp at h)
 ·rw [<-hlen]
  refine .sl _ cap 1 _ .sh g 0 (fun j=>.int .i64 (l.getD j 0:Nat)) (by simpa using hn) (fun h=>by cases h) hc (fun _=>rfl) (fun i e h=>?_) (fun j hj=>?_) (fun i e j p he hp=>?_)
  ·simp only [List.getElem?_map,Option.map_eq_some_iff] at h
   obtain⟨s,_,rfl⟩:=h
   rfl
  ·simp only [List.length_map,Nat.mul_one] at hj
   refine⟨hD _ _ hg (Array.getElem?_eq_some_iff.1 hh).1,?_,rfl⟩
   rw [Nat.zero_add,h.cellAt _ (by simpa using hj)]
   simp [hj]
  ·have hi:i<l.length:=by have:=(List.getElem?_eq_some_iff.1 he).1;simpa using this
   rw [List.getElem?_map,List.getElem?_eq_getElem hi] at he
   cases he
   match j,hp with
   | 0,hp=>cases hp;simp [hi];exact .v _
   | j+1,hp=>simp at hp
theorem zbj (l:List (Nat × Fv)):∀ a:List Nat,l.foldl (fun o p=>o++[p.1]) a=a++l.map Prod.fst:=by
 induction l with
 | nil=>intro a;simp
 | cons p l ih=>intro a;rw [List.foldl_cons,ih];simp
theorem JV (l:List (Nat × Fg)):∀ a:List Nat,l.foldl (fun o p=>o++[p.1]) a=a++l.map Prod.fst:=by
 induction l with
 | nil=>intro a;simp
 | cons p l ih=>intro a;rw [List.foldl_cons,ih];simp
theorem zey (hit:Nat->Bool):∀(n:Nat) (l:List Fv),(wl hit n l).length<=l.length
 | _,[]=>Nat.le_refl _
 | n,f::l=>by
   have:=zey hit (n+1) l
   unfold wl
   split<;>simp<;>omega
theorem K9 (k:List Fg) (i:Nat) (hr:RightK k) (hz:SzK k) (hkl:k.length<=1073741824):Cn Tryz.prog 57 [kp k,.v (.int .u64 i)] (is (zU k i)):=by
 refine yZ rfl (enters_of Tryz.func57 (by kernel_rfl) rfl) fun D w vs hG hD hsz hd=>?_
 obtain⟨a,cap,fs,e0,hl,hrow,hfs⟩:=kX (hd 0 _ rfl) hD
 rw [zeJ hsz,e0,(hd 1 _ rfl).v_inv]
 obtain⟨w1,hw1⟩:∃ w1,(w.alloc (.cells #[.slice a k.length cap] 23)).alloc (.cells #[.int .u64 (i:Nat)] 24)=w1:=⟨_,rfl⟩
 have hs1:w1.heap.size=w.heap.size+2:=by rw [<-hw1];simp
 have b1:Below w.heap.size w w1:=by rw [<-hw1];exact((Below.refl _ _).alloc (Nat.le_refl _) _).alloc (by simp) _
 have x1:Boxed w1 w.heap.size 23 (.slice a k.length cap):=by rw [<-hw1];exact(Boxed.new w _ _).alloc _
 have x2:Boxed w1 (w.heap.size+1) 24 (.int .u64 (i:Nat)):=by rw [<-hw1];have:=Boxed.new (w.alloc (.cells #[.slice a k.length cap] 23)) 24 (.int .u64 (i:Nat));rw [World.size_alloc] at this;exact this
 have hwc:∀ b o x,D b o->w.cell? ⟨b,o,none⟩=some x->w1.cell? ⟨b,o,none⟩=some x:=fun b o x hd hx=>(b1.cell (p:=⟨b,o,none⟩) (hD b o hd)).trans hx
 obtain⟨E,hE⟩:∃ E:Nat->Nat->Prop,E=fun b o=>D b o\/(w.heap.size<=b/\b<w1.heap.size):=⟨_,rfl⟩
 have hEb:∀ b o,E b o->b<w1.heap.size:=fun b o h=>by rw [hE] at h;exact h.elim (fun h=>by have:=hD b o h;omega) And.right
 have hfold:Calls Tryz.prog 106 #[.func (.func 110) #[] #[.pointer (some ⟨w.heap.size,0,none⟩),.pointer (some ⟨w.heap.size+1,0,none⟩)],.slice none 0 0,.func (.func 107) #[] #[]] w1 fun e w'=>∃ u,e=.returned u/\OwnI (w1.heap.size+4) w' u (zU k i)/\Below w1.heap.size w1 w':=by
  refine(X7 110 _ w.heap.size (w.heap.size+1) _ w1 none 0 (enters_of Tryz.func110 (by kernel_rfl) rfl) (fun W hb=>YM (D:=E) (a:=a) (cap:=cap) (fs:=fs) hr hz (hG.mono (fun b o h=>by rw [hE];exact .inl h) hwc) hEb (by rw [hE];exact .inr (by omega)) (by rw [hE];exact .inr (by omega)) x1.cell x2.cell hl ?_ (fun j hj=>⟨(hfs j hj).1.mono (fun b o h=>by rw [hE];exact .inl h) hwc,(hfs j hj).2.mono (fun b o h=>by rw [hE];exact .inl h) hwc⟩) hb) (by omega) (by omega)
   (fun W u l=>OwnI (w1.heap.size+4) W u l) (fun o p=>o++[p.1]) [] (fun W _=>OwnI.nil _ _) (fun W u a h=>h.shape) (fun A B u a h hk=>h.keep hk fun g hg _=>by omega) fun W u pre p hpre hs4 hb h=>?_).mono ?_
  ·obtain⟨h1,h2,h3⟩:=hrow
   refine⟨h1,h2,fun hne=>?_⟩
   obtain⟨b,off,e1,e2,e3⟩:=h3 hne
   exact⟨b,off,e1,by omega,fun j hj=>⟨(b1.cell (p:=⟨b,off+j * 2,none⟩) e2).trans (e3 j hj).1,(b1.cell (p:=⟨b,off+j * 2+1,none⟩) e2).trans (e3 j hj).2⟩⟩
  ·have hpl:pre.length<=k.length:=by
    have h1:=hpre.length_le
    have h2:=zey (fun j=>mem (k.getD j default).items i) 0 fs
    simp only [List.length_append,List.length_cons,List.length_nil] at h1
    omega
   refine JY (w1.heap.size+4) W u _ p.1 _ _ h (by omega) ?_
   rw [zbj]
   simp
   omega
  ·rintro e w' ⟨u,rfl,hI,hb⟩
   rw [Yp hl i (fun o j _=>o++[j]) [],JV,List.nil_append] at hI
   exact⟨u,rfl,hI,hb⟩
 have HF:=Lib.hid hfold
 have HB:=Lib.hid b1
 clear hfold b1 x1 x2 hwc hE hEb hrow hfs hd hG hD
 go_enter Tryz.func57,Tryz.ntmps57
 go_wp2_with (first
  | (go_at_call 63;refine(zex _ _ _ _ _).mono ?_;rintro e w' ⟨rfl,rfl⟩;rw [hw1])
  | (go_at_call 106;refine HF.out.mono ?_;rintro e w2 ⟨u,rfl,ho,hb2⟩;obtain⟨au,nu,cu,rfl⟩:=ho.shape))
 go_ret
 exact⟨_,rfl,HB.out.trans (hb2.mono (by omega)),zdx ho fun b o h1 h2=>.inr (by omega)⟩
theorem zl6 {β:Type} (q:β->Bool):∀(l:List β) (b:Bool),l.foldl (fun b x=>b || q x) b=(b || l.any q)
 | [],b=>by simp
 | x::l,b=>by rw [List.foldl_cons,zl6 q l,List.any_cons,Bool.or_assoc]
theorem zo7 {k:List Fg} {fs:List Fv} (hl:fs.length=k.length) (item:Nat) (q:Fg->Bool) :
 (wl (fun j=>mem (k.getD j default).items item) 0 fs).any (fun p=>q (k.getD p.1 default))=(qd item 0 k).any fun p=>q p.2:=by
 have h:=Yp hl item (fun b _ f=>b || q f) false
 have h1:=zl6 (fun p:Nat × Fv=>q (k.getD p.1 default)) (wl (fun j=>mem (k.getD j default).items item) 0 fs) false
 have h2:=zl6 (fun p:Nat × Fg=>q p.2) (qd item 0 k) false
 rw [Bool.false_or] at h1 h2
 rw [<-h1,<-h2]
 exact h
theorem zoW (k:List Fg) (i r c:Nat) (hr:RightK k) (hc:c<M64) (hz:SzK k):Cn Tryz.prog 46 [kp k,.v (.int .u64 i),.v (.int .u64 r),.v (.int .u64 c)] (.v (.bool (hasK k i r c))):=by
 refine yZ rfl (enters_of Tryz.func46 (by kernel_rfl) rfl) fun D w vs hG hD hsz hd=>?_
 obtain⟨a,cap,fs,e0,hl,hrow,hfs⟩:=kX (hd 0 _ rfl) hD
 have hvs:vs=#[.slice a k.length cap,.int .u64 (i:Nat),.int .u64 (r:Nat),.int .u64 (c:Nat)]:=by
  have q1:=(hd 1 _ rfl).v_inv
  have q2:=(hd 2 _ rfl).v_inv
  have q3:=(hd 3 _ rfl).v_inv
  obtain⟨l⟩:=vs
  match l,hsz with
  | [x,y,z,t],_=>
    simp at e0 q1 q2 q3
    rw [e0,q1,q2,q3]
 rw [hvs]
 refine(zn5 a k.length cap i r c (wl (fun j=>mem (k.getD j default).items i) 0 fs) (fun p=>mem (zT (k.getD p.1 default).vec r) c) w (fun W hlow hs5 c3 c4=>?_) fun W p hp hb=>?_).mono ?_
 ·have hw:∀ b o x,D b o->w.cell? ⟨b,o,none⟩=some x->W.cell? ⟨b,o,none⟩=some x:=fun b o x hd hx=>(World.cell?_of_block (a:=⟨b,o,none⟩) (hlow b (hD b o hd))).trans hx
  refine zew fs _ a cap _ 0 _ 0 w.heap.size i W ?_ (by rw [hl];exact c3) c4 (by omega) fun w' j hj hlow' hsz'=>?_
  ·obtain⟨h1,h2,h3⟩:=hrow
   refine⟨h1,h2,fun hne=>?_⟩
   obtain⟨b,off,e1,e2,e3⟩:=h3 hne
   exact⟨b,off,e1,e2,fun j hj=>⟨(World.cell?_of_block (a:=⟨b,off+j * 2,none⟩) (hlow b e2)).trans (e3 j hj).1,(World.cell?_of_block (a:=⟨b,off+j * 2+1,none⟩) (hlow b e2)).trans (e3 j hj).2⟩⟩
  ·have hw':∀ b o x,D b o->w.cell? ⟨b,o,none⟩=some x->w'.cell? ⟨b,o,none⟩=some x:=fun b o x hd hx=>(World.cell?_of_block (a:=⟨b,o,none⟩) (hlow' b (hD b o hd))).trans (hw b o x hd hx)
   have hj':j<k.length:=hl ▸ hj
   have hm:=List.getElem_mem hj'
   simp only [zfl hj']
   refine(jP (ziQ k[j].items i (hr _ hm).1 (hz.2 _ hm).1) (hG.mono (fun _ _ h=>h) hw') (fun b o h=>Nat.lt_of_lt_of_le (hD b o h) hsz') rfl (fun t p hp=>?_)).mono ?_
   ·match t,hp with
    | 0,hp=>cases hp;exact(hfs j hj).1.mono (fun _ _ h=>h) hw'
    | 1,hp=>cases hp;exact .v _
    | t+2,hp=>simp at hp
   ·rintro e W' ⟨v,rfl,hb',hd⟩
    rw [hd.v_inv]
    exact⟨rfl,hb'⟩
 ·have hw:∀ b o x,D b o->w.cell? ⟨b,o,none⟩=some x->W.cell? ⟨b,o,none⟩=some x:=fun b o x hd hx=>(hb.cell (p:=⟨b,o,none⟩) (hD b o hd)).trans hx
  obtain⟨hp1,_,hp3,_⟩:=zez hp
  have hj:p.1<fs.length:=by simpa using hp1
  have hj':p.1<k.length:=hl ▸ hj
  have hm:=List.getElem_mem hj'
  have e:p.2=fs[p.1]:=by rw [hp3];simp
  simp only [zfl hj',e]
  refine(jP (zo6 k[p.1].vec r c (hr _ hm).2 hc (hz.2 _ hm).2.1 (hz.2 _ hm).2.2) (hG.mono (fun _ _ h=>h) hw) (fun b o h=>Nat.lt_of_lt_of_le (hD b o h) hb.size) rfl (fun t p' hp'=>?_)).mono ?_
  ·match t,hp' with
   | 0,hp'=>cases hp';exact(hfs p.1 hj).2.mono (fun _ _ h=>h) hw
   | 1,hp'=>cases hp';exact .v _
   | 2,hp'=>cases hp';exact .v _
   | t+3,hp'=>simp at hp'
  ·rintro e W' ⟨v,rfl,hb',hd⟩
   rw [hd.v_inv]
   exact⟨rfl,hb'⟩
 ·rintro e w' ⟨rfl,hb⟩
  rw [zo7 hl i (fun f=>mem (zT f.vec r) c),jh]
  exact⟨_,rfl,hb,.v _⟩
theorem zgU {C:Nat->List Nat} {R:List Nat} (k:List Fg) (i:Nat) (hk:IK C R k) (ok:OkC C R) (hr:RightK k) (hs:∀ f ∈ k,SmV f.vec) (hz:SzK k):Cn Tryz.prog 18 [kp k,.v (.int .u64 i)] (vp (qc k i)):=by
 refine zt Tryz.func18 2 ?_
 refine pw ?_
 refine .c (zfB k i) ?_
 exact .d (zfk k i hk ok hr hs hz)
theorem zc8 (k:List Fg) (hb:BdK k):Cn Tryz.prog 13 [kp k] (.v (.bool (vx k))):=by
 have hl:=hb.2
 refine zt Tryz.func13 1 ?_
 refine pw ?_
 refine pLoop.go (fun j=>j<=k.length/\vx k=((k.drop j).all (fun f=>decide (f.items.length<=20) && JF f.vec) && decide (k.length<=12))) (fun j=>[(3,.v (.int .i64 (j:Nat)))]) (fun _=>[]) (fun j=>k.length - j) 0 [3] ?_ ?_ ?_
 ·exact⟨Nat.zero_le _,rfl⟩
 ·exact pd
 ·rintro j ⟨hj,hm⟩
  refine pw ?_
  refine .i ?_ ?_<;>intro h<;>(try simp only [zb] at h)<;>first | refine pw ?_ | exact pd
  ·rw [List.drop_eq_getElem_cons h,List.all_cons] at hm
   have hbj:=hb.1 _ (List.getElem_mem h)
   have hbi:=hbj.2.2.1
   refine pw ?_
   refine .i ?_ ?_<;>intro h2<;>(try simp only [zb] at h2)<;>first | refine pw ?_ | exact pd
   ·rw [hm,decide_eq_false (by omega)]
    rfl
   ·rw [decide_eq_true (by omega),Bool.true_and] at hm
    refine .c (zj5 k[j].vec hbj.2.2.2) ?_
    refine .i ?_ ?_<;>intro h3<;>(try simp only [zb] at h3)<;>first | refine pw ?_ | exact pd
    ·rw [hm,h3]
     rfl
    ·rw [h3,Bool.true_and] at hm
     exact⟨j+1,⟨h,hm⟩,by omega,rfl⟩
  ·rw [hm,List.drop_of_length_le (by omega)]
   simp
   omega
theorem znL (k:List Fg) (hb:BdK k) (hh:HlK k):Cn Tryz.prog 36 [kp k] (.tup [.v (.int .i64 (ckK k).1),.v (.int .i64 (ckK k).2)]):=by
 have hl:=hb.2
 refine zt Tryz.func36 1 ?_
 refine pw ?_
 refine pLoop.go (fun j=>j<=k.length/\ckK k=hkK j (k.drop j)) (fun j=>[(4,.v (.int .i64 (j:Nat)))]) (fun _=>[]) (fun j=>k.length - j) 0 [4] ?_ ?_ ?_
 ·exact⟨Nat.zero_le _,rfl⟩
 ·exact pd
 ·rintro j ⟨hj,hm⟩
  refine pw ?_
  refine .i ?_ ?_<;>intro h<;>(try simp only [zb] at h)<;>first | refine pw ?_ | exact pd
  ·rw [List.drop_eq_getElem_cons h,hkK] at hm
   have hbj:=hb.1 _ (List.getElem_mem h)
   have hhj:=hh _ (List.getElem_mem h)
   refine pw ?_
   refine .c (XO k[j].items hbj.2.2.1 hbj.1) ?_
   refine .i ?_ ?_<;>intro h2<;>(try simp only [zb] at h2)<;>first | refine pw ?_ | exact pd
   ·rw [if_neg (by omega)] at hm
    refine .c (Kb k[j].vec hbj.2.1 hbj.2.2.2 hhj) ?_
    refine .i ?_ ?_<;>intro h3<;>(try simp only [zb] at h3)<;>first | refine pw ?_ | exact pd
    ·rw [if_pos (by omega)] at hm
     rw [hm]
    ·rw [if_neg (by omega)] at hm
     exact⟨j+1,⟨h,hm⟩,by omega,rfl⟩
   ·rw [if_pos (by omega)] at hm
    refine .i ?_ ?_<;>intro h3<;>(try simp only [zb] at h3)<;>first | refine pw ?_ | exact pd
    ·rw [hm]
    ·exact absurd h3 (by omega)
  ·rw [hm,List.drop_of_length_le (by omega)]
   rfl
theorem SzK.hl {k:List Fg} (hz:SzK k):HlK k:=fun f hf e he=>Nat.le_trans ((hz.2 f hf).2.2 e he) (by omega)
theorem VS (k:List Fg) (hb:BdK k) (hz:SzK k):Cn Tryz.prog 36 [kp k] (.tup [.v (.int .i64 (ckK k).1),.v (.int .i64 (ckK k).2)]):=znL k hb hz.hl
theorem Vm (k:List Fg) (hb:BdK k) (hz:SzK k):Cn Tryz.prog 17 [kp k] (.v (.bool (decide ((ckK k).1=0)))):=by
 refine zt Tryz.func17 1 ?_
 refine pw ?_
 exact .d (VS k hb hz)
theorem zid (k:List Fg) (i r c:Nat) (hr:RightK k) (hc:c<M64) (hz:SzK k):Cn Tryz.prog 33 [kp k,.v (.int .u64 i),.v (.int .u64 r),.v (.int .u64 c)] (.v (.bool (hasK k i r c))):=by
 have hl:=hz.1
 refine zt Tryz.func33 4 ?_
 refine pw ?_
 refine pLoop.go (fun j=>j<=k.length/\hasK k i r c=hasK (k.drop j) i r c) (fun j=>[(9,.v (.int .i64 (j:Nat)))]) (fun _=>[]) (fun j=>k.length - j) 0 [9] ?_ ?_ ?_
 ·exact⟨Nat.zero_le _,rfl⟩
 ·exact pd
 ·rintro j ⟨hj,hm⟩
  refine pw ?_
  refine .i ?_ ?_<;>intro h<;>(try simp only [zb] at h)<;>first | refine pw ?_ | exact pd
  ·rw [List.drop_eq_getElem_cons h] at hm
   have hm':hasK k i r c=((mem k[j].items i && mem (zT k[j].vec r) c) || hasK (k.drop (j+1)) i r c):=hm
   have hzj:=hz.2 _ (List.getElem_mem h)
   have hrj:=hr _ (List.getElem_mem h)
   refine pw ?_
   refine .c (kU k[j].items i hzj.1) ?_
   refine .i ?_ ?_<;>intro h2<;>(try simp only [zb] at h2)<;>first | refine pw ?_ | exact pd
   ·refine .c (zl8 k[j].vec r c hrj.2 hc hzj.2.1 hzj.2.2) ?_
    rw [h2,Bool.true_and] at hm'
    refine .i ?_ ?_<;>intro h3<;>(try simp only [zb] at h3)<;>first | refine pw ?_ | exact pd
    ·rw [hm',h3]
     rfl
    ·rw [h3,Bool.false_or] at hm'
     exact⟨j+1,⟨h,hm'⟩,by omega,rfl⟩
   ·rw [h2,Bool.false_and,Bool.false_or] at hm'
    exact⟨j+1,⟨h,hm'⟩,by omega,rfl⟩
  ·rw [hm,List.drop_of_length_le (by omega)]
   rfl
theorem VR {C:Nat->List Nat} {R:List Nat} (k:List Fg) (i:Nat) (hk:IK C R k) (ok:OkC C R) (hr:RightK k) (hs:∀ f ∈ k,SmV f.vec) (hz:SzK k):Cn Tryz.prog 88 [kp k,.v (.int .u64 i)] (vp (qc k i)):=by
 have hl:=hz.1
 refine zt Tryz.func88 2 ?_
 refine pw ?_
 refine pLoop.go (fun j=>j<=k.length) (fun j=>[(5,vp (qc (k.take j) i)),(6,.v (.int .i64 (j:Nat)))]) (fun _=>[]) (fun j=>k.length - j) 0 [5,6] ?_ ?_ ?_
 ·exact Nat.zero_le _
 ·simp only [List.take_zero,zbT]
  exact pd
 ·rintro j hj
  refine pw ?_
  refine .i ?_ ?_<;>intro h<;>(try simp only [zb] at h)<;>first | refine pw ?_ | exact pd
  ·have hst:=Ku i h
   have hzj:=hz.2 _ (List.getElem_mem h)
   have hsm:=((hk.take j).at i).1.smv ok
   refine pw ?_
   refine .c (kU k[j].items i hzj.1) ?_
   refine .i ?_ ?_<;>intro h2<;>(try simp only [zb] at h2)<;>first | refine pw ?_ | exact pd
   ·rw [if_pos h2] at hst
    refine .c (zcC (qc (k.take j) i) k[j].vec 0 (by omega) hsm (hs _ (List.getElem_mem h))) ?_
    rw [znf]
    exact⟨j+1,h,by omega,by rw [hst],rfl⟩
   ·rw [if_neg (by rw [h2];simp)] at hst
    exact⟨j+1,h,by omega,by rw [hst],rfl⟩
  ·rw [show k.take j=k from List.take_of_length_le (by omega)]
theorem Kd (k:List Fg) (i:Nat) (hz:SzK k) (hkl:k.length<=1073741824):Cn Tryz.prog 131 [kp k,.v (.int .u64 i)] (is (zU k i)):=by
 have hl:=hz.1
 refine zt Tryz.func131 2 ?_
 refine pw ?_
 refine pLoop.go (fun j=>j<=k.length) (fun j=>[(5,.sl ((zU (k.take j) i).map fun x=>[.v (.int .i64 (x:Nat))]) (.r 23 1)),(6,.v (.int .i64 (j:Nat)))]) (fun _=>[]) (fun j=>k.length - j) 0 [5,6,23] ?_ ?_ ?_
 ·exact Nat.zero_le _
 ·simp only [List.take_zero,zU,qd,List.map_nil]
  exact pd
 ·rintro j hj
  have hml:=zbk (k.take j) i
  have hml2:(zU (k.take j) i).length<=j:=by simp at hml;omega
  refine pw ?_
  refine .i ?_ ?_<;>intro h<;>(try simp only [zb] at h)<;>first | refine pw ?_ | exact pd
  ·have hst:=JX i h
   have hzj:=hz.2 _ (List.getElem_mem h)
   refine pw ?_
   refine .c (kU k[j].items i hzj.1) ?_
   refine .i ?_ ?_<;>intro h2<;>(try simp only [zb] at h2)<;>first | refine pw ?_ | exact pd
   ·rw [if_pos h2] at hst
    refine⟨j+1,h,by omega,?_,rfl⟩
    rw [hst]
    simp
   ·rw [if_neg (by rw [h2];simp),List.append_nil] at hst
    exact⟨j+1,h,by omega,by rw [hst],rfl⟩
  ·rw [show k.take j=k from List.take_of_length_le (by omega)]
theorem Vh (k:List Fg) (hb:BdK k) (hz:SzK k):Cn Tryz.prog 54 [kp k] (jS (ckK k).1 (ckK k).2):=by
 have hl:=hz.1
 refine zt Tryz.func54 1 ?_
 refine pw ?_
 refine pLoop.go (fun j=>j<=k.length/\ckK k=hkK j (k.drop j)) (fun j=>[(9,.v (.int .i64 (j:Nat)))]) (fun _=>[]) (fun j=>k.length - j) 0 [9] ?_ ?_ ?_
 ·exact⟨Nat.zero_le _,rfl⟩
 ·exact pd
 ·rintro j ⟨hj,hm⟩
  refine pw ?_
  refine .i ?_ ?_<;>intro h<;>(try simp only [zb] at h)<;>first | refine pw ?_ | exact pd
  ·rw [List.drop_eq_getElem_cons h,hkK] at hm
   have hbj:=hb.1 _ (List.getElem_mem h)
   have hzj:=hz.2 _ (List.getElem_mem h)
   have hco1:=Ju (Zl k[j].items).1 (Zl k[j].items).2
   have hco2:=Ju (jx k[j].vec).1 (jx k[j].vec).2
   refine pw ?_
   refine .rd (VO k[j].items hbj.1 hzj.1 (.inr (KL 2))) rfl ?_
   by_cases h1:(Zl k[j].items).1=0
   ·rw [yk h1]
    rw [if_neg (by omega)] at hm
    refine pw ?_
    refine .rd (zes k[j].vec hbj.2.1 hzj.2.1 hzj.2.2) rfl ?_
    by_cases h2:(jx k[j].vec).1=0
    ·rw [yk h2]
     rw [if_neg (by omega)] at hm
     refine pw ?_
     exact⟨j+1,⟨h,hm⟩,by omega,rfl⟩
    ·rw [if_pos h2] at hm
     rw [hm]
     rw [vu h2] at hco2 ⊢
     refine pw ?_
     (first | refine .c (hco2) ?_ | refine .o (hco2) ?_)
     refine .c (jT (jx k[j].vec).1 j) ?_
     exact ym _ _
   ·rw [if_pos h1] at hm
    rw [hm]
    rw [vu h1] at hco1 ⊢
    refine pw ?_
    (first | refine .c (hco1) ?_ | refine .o (hco1) ?_)
    refine .c (jT (Zl k[j].items).1 j) ?_
    exact ym _ _
  ·rw [hm,List.drop_of_length_le (by omega)]
   exact .eq _ rfl
theorem zfq (a b:List Fg) (hz:SzK a):Cn Tryz.prog 16 [kp a,kp b] (.v (.bool (decide (a=b)))):=by
 have hl:=hz.1
 refine zt Tryz.func16 2 ?_
 refine pw ?_
 refine .i ?_ ?_<;>intro h0<;>(try simp only [zb] at h0)<;>first | refine pw ?_ | exact pd
 ·symm
  rw [decide_eq_false_iff_not]
  rintro rfl
  exact h0 rfl
 ·have h0':a.length=b.length:=by simpa using h0
  clear h0
  refine pLoop.go (fun k=>k<=a.length/\(a=b ↔ a.drop k=b.drop k)) (fun k=>[(5,.v (.int .i64 (k:Nat)))]) (fun _=>[]) (fun k=>a.length - k) 0 [5] ?_ ?_ ?_
  ·exact⟨Nat.zero_le _,Iff.rfl⟩
  ·exact pd
  ·rintro k ⟨hk,hm⟩
   refine pw ?_
   refine .i ?_ ?_<;>intro h<;>(try simp only [zb] at h)<;>first | refine pw ?_ | exact pd
   ·have hk':k<b.length:=by omega
    have hzj:=hz.2 _ (List.getElem_mem h)
    rw [List.drop_eq_getElem_cons h,List.drop_eq_getElem_cons hk',List.cons.injEq] at hm
    refine pw ?_
    refine .c (zgI a[k].items b[k].items hzj.1) ?_
    refine .i ?_ ?_<;>intro e<;>(try simp only [zb] at e)<;>first | refine pw ?_ | exact pd
    ·symm
     rw [decide_eq_false_iff_not]
     intro he
     exact e (congrArg Fg.items (hm.1 he).1)
    ·refine .c (zji a[k].vec b[k].vec hzj.2.1 hzj.2.2) ?_
     refine .i ?_ ?_<;>intro e2<;>(try simp only [zb] at e2)<;>first | refine pw ?_ | exact pd
     ·symm
      rw [decide_eq_false_iff_not]
      intro he
      exact e2 (congrArg Fg.vec (hm.1 he).1)
     ·refine⟨k+1,⟨h,?_⟩,by omega,rfl⟩
      rw [hm]
      exact⟨fun h=>h.2,fun h=>⟨Fg.ext' e e2,h⟩⟩
   ·rw [eq_comm,decide_eq_true_eq,hm,List.drop_of_length_le (by omega),List.drop_of_length_le (by omega)]
theorem zjX (a b:List Nat) (ha:a.length<=1152921504606846976):Cn Tryz.prog 56 [is a,is b] (.v (.bool (decide (a=b)))):=by
 refine zt Tryz.func56 2 ?_
 refine pw ?_
 refine .i ?_ ?_<;>intro h0<;>(try simp only [zb] at h0)<;>first | refine pw ?_ | exact pd
 ·symm
  rw [decide_eq_false_iff_not]
  rintro rfl
  exact h0 rfl
 ·have h0':a.length=b.length:=by simpa using h0
  clear h0
  refine pLoop.go (fun k=>k<=a.length/\(a=b ↔ a.drop k=b.drop k)) (fun k=>[(13,.v (.int .i64 (k:Nat)))]) (fun _=>[]) (fun k=>a.length - k) 0 [13] ?_ ?_ ?_
  ·exact⟨Nat.zero_le _,Iff.rfl⟩
  ·exact pd
  ·rintro k ⟨hk,hm⟩
   refine pw ?_
   refine .i ?_ ?_<;>intro h<;>(try simp only [zb] at h)<;>first | refine pw ?_ | exact pd
   ·have hk':k<b.length:=by omega
    rw [List.drop_eq_getElem_cons h,List.drop_eq_getElem_cons hk',List.cons.injEq] at hm
    refine pw ?_
    refine .i ?_ ?_<;>intro e<;>(try simp only [zb] at e)<;>first | refine pw ?_ | exact pd
    ·symm
     rw [decide_eq_false_iff_not]
     intro he
     exact absurd (hm.1 he).1 (by omega)
    ·refine⟨k+1,⟨h,?_⟩,by omega,rfl⟩
     rw [hm]
     have e:a[k]=b[k]:=by omega
     exact⟨fun h=>h.2,fun h=>⟨e,h⟩⟩
   ·rw [eq_comm,decide_eq_true_eq,hm,List.drop_of_length_le (by omega),List.drop_of_length_le (by omega)]
theorem zps (r:Nat):kn ⟨r,0,[]⟩=[⟨0,0⟩]:=kn0 _ _ (by rw [zw];omega)
theorem zhj (f:Fg) (v:List En) (hf:∀ e ∈ f.vec,ZL e) (hv:∀ e ∈ v,ZL e) (lf:(zv f.vec).length<=1073741824) (lv:(zv v).length<=1073741824):Cn Tryz.prog 164 [fp f,vp v] (.v (.int .i64 (zZ (zv f.vec) (zv v)))):=by
 refine zt Tryz.func164 2 ?_
 refine pw ?_
 exact .d (Ks f.vec v hf hv lf lv)
theorem zhm (k:List Fg) (v:List En) (i:Nat) (hi:i<=k.length) (h1:∀ j,(h:j<k.length)->j<i->ZH k[j].vec v) (h2:∀ j,(h:j<k.length)->i<=j->¬ ZH k[j].vec v) (hl:k.length<=1152921504606846976)
 (hc:∀ f ∈ k,Cn Tryz.prog 164 [fp f,vp v] (.v (.int .i64 (zZ (zv f.vec) (zv v))))) :
 Cn Tryz.prog 163 [kp k,vp v,.fn (.func 164) [] []] (.tup [.v (.int .i64 i),.v (.bool (if h:i<k.length then decide (zZ (zv k[i].vec) (zv v)=0) else false))]):=by
 refine zt Tryz.func163 3 ?_
 refine pw ?_
 refine pLoop.go (fun p:Nat × Nat=>p.1<=i/\i<=p.2/\p.2<=k.length) (fun p=>[(9,.v (.int .i64 (p.1:Nat))),(10,.v (.int .i64 (p.2:Nat)))]) (fun _=>[]) (fun p=>p.2 - p.1) (0,k.length) [9,10] ?_ ?_ ?_
 ·exact⟨Nat.zero_le _,hi,Nat.le_refl _⟩
 ·exact pd
 ·rintro⟨p,q⟩ ⟨k1,k2,k3⟩
  simp only at k1 k2 k3
  refine pw ?_
  refine .i ?_ ?_<;>intro h<;>(try simp only [zb] at h)<;>first | refine pw ?_ | exact pd
  ·have hm:(p+q) / 2<k.length:=by omega
   have a1:=h1 _ hm
   have a2:=h2 _ hm
   refine pw ?_
   (first | refine .c (hc k[(p+q) / 2] (List.getElem_mem hm)) ?_ | refine .o (hc k[(p+q) / 2] (List.getElem_mem hm)) ?_)
   refine .i ?_ ?_<;>intro h4<;>(try simp only [zb] at h4)<;>first | refine pw ?_ | exact pd
   ·refine⟨((p+q) / 2+1,q),⟨?_,k2,k3⟩,by simp only;omega,rfl,rfl⟩
    simp only
    exact Nat.lt_of_not_le fun h5=>a2 h5 h4
   ·refine⟨(p,(p+q) / 2),⟨k1,?_,by simp only;omega⟩,by simp only;omega,rfl,rfl⟩
    simp only
    refine Nat.le_of_not_lt fun h5=>?_
    have:=a1 h5
    unfold ZH at this
    omega
  ·obtain rfl:p=i:=by omega
   obtain rfl:q=p:=by omega
   refine .i ?_ ?_<;>intro h4<;>(try simp only [zb] at h4)<;>first | refine pw ?_ | exact pd
   ·(first | refine .c (hc k[q] (List.getElem_mem h4)) ?_ | refine .o (hc k[q] (List.getElem_mem h4)) ?_)
    rw [dif_pos h4]
    try simp
   ·rw [dif_neg (by omega)]
theorem Qo:∀ {k:List Fg} (v:List En),k.Pairwise (fun f g=>ZH f.vec g.vec)->∃ i,i<=k.length/\(∀ j,(h:j<k.length)->j<i->ZH k[j].vec v)/\(∀ j,(h:j<k.length)->i<=j->¬ ZH k[j].vec v)
 | [],v,_=>⟨0,Nat.le_refl _,fun j h=>by simp at h,fun j h=>by simp at h⟩
 | f::k,v,hp=>by
   have hp':=List.pairwise_cons.1 hp
   by_cases h:ZH f.vec v
   ·obtain⟨i,h0,h1,h2⟩:=Qo v hp'.2
    refine⟨i+1,by simp;omega,fun j hj hlt=>?_,fun j hj hle=>?_⟩
    ·cases j with
     | zero=>exact h
     | succ j=>exact h1 j (by simpa using hj) (by omega)
    ·cases j with
     | zero=>omega
     | succ j=>exact h2 j (by simpa using hj) (by omega)
   ·refine⟨0,Nat.zero_le _,fun j _ h=>absurd h (Nat.not_lt_zero _),fun j hj _ hlt=>?_⟩
    cases j with
    | zero=>exact h hlt
    | succ j=>exact h (k8 (hp'.1 _ (List.getElem_mem (by simpa using hj))) hlt)
theorem Y8:∀ {k:List Fg} {f:Fg} {i:Nat},i<=k.length->(∀ j,(h:j<k.length)->j<i->ZH k[j].vec f.vec)->(∀ j,(h:j<k.length)->i<=j->¬ ZH k[j].vec f.vec) ->
 qN k f=if h:i<k.length then (if zZ (zv k[i].vec) (zv f.vec)=0 then k.take i++⟨qy zn k[i].items f.items,f.vec⟩::k.drop (i+1) else k.take i++f::k.drop i) else k++[f]
 | [],f,i,h0,h1,h2=>by simp [qN]
 | g::k,f,i,h0,h1,h2=>by
   cases i with
   | zero=>
     have hn:=h2 0 (by simp) (Nat.le_refl _)
     have hn':¬ zZ (zv g.vec) (zv f.vec)<0:=hn
     rw [qN,if_neg hn',dif_pos (by simp)]
     simp only [List.getElem_cons_zero,List.take_zero,List.nil_append,List.drop_zero,List.drop_succ_cons]
   | succ i=>
     have hy:zZ (zv g.vec) (zv f.vec)<0:=h1 0 (by simp) (by omega)
     rw [qN,if_pos hy,Y8 (i:=i) (by simpa using h0) (fun j hj hlt=>h1 (j+1) (by simpa using hj) (by omega)) (fun j hj hle=>h2 (j+1) (by simpa using hj) (by omega))]
     simp only [List.length_cons,List.getElem_cons_succ,List.take_succ_cons,List.drop_succ_cons,List.cons_append,Nat.add_lt_add_iff_right]
     split
     ·split<;>rfl
     ·rfl
end Go.Proofs.YtonhfknjcbakiaaGreatDoor
namespace Go.Proofs.YtonhfknjcbakiaaGreatDoor
open Go.RowKit
attribute [-go_sem] z7
structure AddOk (o:List Fg) (f:Fg):Prop where
 gi:GrpI o
 fo:OkG f
 l:o.length<=1048576
 fi:f.items.length<=100000000
 oi:∀ g ∈ o,g.items.length<=100000000
 bd:∀ e ∈ f.vec,ZL e
 bo:∀ g ∈ o,∀ e ∈ g.vec,ZL e
 nf:(zv f.vec).length<=1073741824
 no:∀ g ∈ o,(zv g.vec).length<=1073741824
theorem xL {D:Nat->Nat->Prop} {w:World} {v:Value} {l:List En} (h:Dat D w v (vp l)):∃ ad cap,v=.slice ad l.length cap:=by
 have h':Dat D w v (.sl (l.map ec) .sh):=h
 obtain⟨ad,cap,sz,b,off,f,e1,_⟩:=(Rel.dat (ρ:=fun _=>0) (nb:=0) h').inv_sl
 rw [List.length_map] at e1
 exact⟨ad,cap,e1⟩
def zc1 (o:List Fg) (f:Fg) (i:Nat):Bool:=if h:i<o.length then decide (zZ (zv o[i].vec) (zv f.vec)=0) else false
theorem zjH {C:Nat->Nat->Prop} {rb base:Nat} {w:World} {v vv:Value} {o:List Fg} {f:Fg} (i:Nat) (r:Bool) (hr:zc1 o f i=r) (ho:AddOk o f) (hout:OutG C rb base w v o) (dv:Dat (DL C rb w) w vv (vp f.vec)) (hb:rb<base) (hC:∀ b o,C b o->b<rb) (hrb:rb<w.heap.size) (hG:GL C w)
 (hi:i<=o.length) (h1:∀ j,(h:j<o.length)->j<i->ZH o[j].vec f.vec) (h2:∀ j,(h:j<o.length)->i<=j->¬ ZH o[j].vec f.vec) :
 Calls Tryz.prog 163 #[v,vv,.func (.func 164) #[] #[]] w fun e w'=>e=.returned (.tuple #[.int .i64 (i:Nat),.bool r])/\Below w.heap.size w w':=by
 subst hr
 refine(jP (D:=DL C rb w) (zhm o f.vec i hi h1 h2 (by have:=ho.l;omega) fun g hg=>zhj g f.vec (ho.bo g hg) ho.bd (ho.no g hg) ho.nf) (hG.mono (fun _ _ h=>.inl h) fun _ _ _ _ h=>h) (fun b o h=>h.elim (fun h=>Nat.lt_trans (hC b o h) hrb) And.right) rfl (fun j p hp=>?_)).mono ?_
 ·match j,hp with
  | 0,hp=>cases hp;exact hout.dat hb
  | 1,hp=>cases hp;exact dv
  | 2,hp=>cases hp;exact .fn _ #[] #[] [] [] rfl rfl (fun _ _ h=>by simp at h) (fun _ _ h=>by simp at h)
  | j+3,hp=>simp at hp
 ·rintro e w' ⟨u,rfl,hb',hd⟩
  rw [XY hd]
  exact⟨rfl,hb'⟩
theorem zeo {C:Nat->Nat->Prop} {rb:Nat} {w:World} {v a b:Value} {l m:List Iv} (hl:Nrm l) (hm:Nrm m) (hs:l.length+m.length<=1073741824) (da:Dat (DX C rb w v) w a (rg l)) (db:Dat (DX C rb w v) w b (rg m)) (hv:∀ k,v.ownBlock=some k->rb<k/\k<w.heap.size) (hC:∀ b o,C b o->b<rb) (hrb:rb<w.heap.size) (hG:GL C w) :
 Calls Tryz.prog 69 #[a,b] w fun e w'=>∃ u,e=.returned u/\Below w.heap.size w w'/\Dat (DX C rb w' v) w' u (rg (qy zn l m)):=by
 refine(jP (D:=DX C rb w v) (zaz l m hl hm hs) (hG.mono (fun b o h=>⟨.inl h,fun e=>by have:=(hv b e).1;have:=hC b o h;omega⟩) fun _ _ _ _ h=>h) (fun b o h=>h.1.elim (fun h=>Nat.lt_trans (hC b o h) hrb) And.right) rfl (fun j p hp=>?_)).mono ?_
 ·match j,hp with
  | 0,hp=>cases hp;exact da
  | 1,hp=>cases hp;exact db
  | j+2,hp=>simp at hp
 ·rintro e w' ⟨u,rfl,hb,hd⟩
  exact⟨u,rfl,hb,hd.mono (fun b o h=>by
   rcases h with h | h
   ·exact⟨h.1.imp id fun h=>⟨h.1,Nat.lt_of_lt_of_le h.2 hb.size⟩,h.2⟩
   ·exact⟨.inr ⟨by omega,h.2⟩,fun e=>by have:=(hv b e).2;omega⟩) fun _ _ _ _ h=>h⟩
theorem zhT {o:List Fg} {f:Fg} {i:Nat} (h:zc1 o f i=true):∃ hi:i<o.length,zZ (zv o[i].vec) (zv f.vec)=0:=by
 unfold zc1 at h
 split at h
 ·rename_i hi
  exact⟨hi,by simpa using h⟩
 ·cases h
theorem Jh {C:Nat->Nat->Prop} {base rb:Nat} {w:World} {v va vv:Value} {o:List Fg} {f:Fg} (hok:AddOk o f) (hout:OutG C (rb+1) base w v o) (hbx:Boxed w rb 142 v) (hrb:rb+1<base) (hbase:base<=w.heap.size) (hC:∀ b o,C b o->b<rb) (hG:GL C w)
 (da:Dat (DX C (rb+1) w v) w va (rg f.items)) (dv:Dat (DX C (rb+1) w v) w vv (vp f.vec)) :
 Calls Tryz.prog 117 #[.pointer (some ⟨rb,0,none⟩),.agg #[va,vv]] w fun e w'=>(∃ u,e=.returned u)/\∃ v',Boxed w' rb 142 v'/\OutG C (rb+1) base w' v' (qN o f)/\Keep (fun k=>k=rb\/base<=k) w w':=by
 obtain⟨i,hi,q1,q2⟩:=Qo f.vec hok.gi.srt
 have hins:=Y8 hi q1 q2
 have hrw:=hbx.lt
 obtain⟨w1,hw1⟩:∃ w1,w1=w.alloc (.cells #[va,vv] 34):=⟨_,rfl⟩
 have hs1:w1.heap.size=w.heap.size+1:=by rw [hw1];simp
 have hb1:∀ j,j<w.heap.size->w1.heap[j]? = w.heap[j]?:=fun j hj=>by rw [hw1];exact Below.heap_alloc _ _ _ hj
 have hx1:w1.heap[w.heap.size]? = some (.cells #[va,vv] 34 (0,0)):=by rw [hw1];exact World.alloc_heap_new w _
 have hout1:=hout.keep (w':=w1) (by omega) hb1
 have da1:Dat (DX C (rb+1) w1 v) w1 va (rg f.items):=DX.keep da (by omega) fun k hk _=>hb1 k hk
 have dv1:Dat (DX C (rb+1) w1 v) w1 vv (vp f.vec):=DX.keep dv (by omega) fun k hk _=>hb1 k hk
 have hbx1:Boxed w1 rb 142 v:=(hb1 rb hrw).trans hbx
 have hG1:GL C w1:=hG.mono (fun _ _ h=>h) fun b o x hc hx=>(World.cell?_of_block (a:=⟨b,o,none⟩) (hb1 b (by have:=hC b o hc;omega))).trans hx
 obtain⟨ad,cap,rfl,hlc,hcm⟩:=hout.shape
 unfold maxLen at hcm
 obtain⟨aa,ca,rfl⟩:=zK da
 obtain⟨av,cv,rfl⟩:=xL dv
 obtain⟨r,hr⟩:∃ r,zc1 o f i=r:=⟨_,rfl⟩
 have hbs:∀ W,Below w1.heap.size w1 W->Calls Tryz.prog 163 #[.slice ad o.length cap,.slice av f.vec.length cv,.func (.func 164) #[] #[]] W fun e w'=>e=.returned (.tuple #[.int .i64 (i:Nat),.bool r])/\Below W.heap.size W w':=fun W hW=>
  zjH i r hr hok (hout1.keep hW.size fun k hk=>hW.block k hk) ((DX.keep dv1 hW.size fun k hk _=>hW.block k hk).mono (fun _ _ h=>h.1) fun _ _ _ _ h=>h) hrb (fun b o h=>Nat.lt_succ_of_lt (hC b o h)) (by have:=hW.size;omega) (hG1.mono (fun _ _ h=>h) fun b o x hc hx=>(World.cell?_of_block (a:=⟨b,o,none⟩) (hW.block b (by have:=hC b o hc;omega))).trans hx) hi q1 q2
 have HBS:=Lib.hid hbs
 have c0:=hbx1.cell
 have e0:=(zW hx1 0 _ rfl).1
 have e1:=(zW hx1 1 _ rfl).1
 have HW1:=Lib.hid hw1
 have HO1:=Lib.hid hout1
 have HDA:=Lib.hid da1
 have HDV:=Lib.hid dv1
 have HX1:=Lib.hid hbx1
 have HG1:=Lib.hid hG1
 have HINS:=Lib.hid hins
 have HXX:=Lib.hid hx1
 have HHIT:=Lib.hid hr
 have HBB:=Lib.hid hb1
 clear hins hb1 hx1 hout1 da1 dv1 hbx1 hG1 hr da dv hout hbx hG q1 q2 hbs
 have tokA:True:=trivial
 have hc1:Below w1.heap.size w1 w1.drew:=(Below.refl _ _).drew
 have mixed:Tryz.prog.follows .mixedOrders=true:=by kernel_rfl
 go_enter Tryz.func117,Tryz.ntmps117
 go_wp2_with fail
 rw [<-hw1]
 refine Kg (Sw:=qe) 12 51 (fun w9=>Below w1.heap.size w1 w9/\w9.cell? ⟨rb,0,none⟩=some (.slice ad o.length cap)/\w9.cell? ⟨w.heap.size,1,none⟩=some (.slice av f.vec.length cv)) (by kernel_rfl) (by kernel_rfl) rfl ⟨hc1,c0,e1⟩ ?_
 simp only [List.take_succ_cons,List.take_zero]
 refine Jz ?_
 refine V7 (fun u _=>u=.tuple #[.int .i64 (i:Nat),.bool r]) (yj _) rfl ?_ ?_
 ·intro a2 w2 hc hk hr K hK
  have HK:=Lib.hid hK
  clear hK
  simp [Rds,zA,lk,Op.operands,Call.operands,RdEq] at hr
  go_simp
  refine(HBS.out _ hc.1).mono ?_
  rintro e w3 ⟨rfl,hb⟩
  have hkb:Keep qe w2 w3:=Keep.of_below' hb (Nat.le_refl _)
  exact HK.out _ _ hkb ⟨hc.1.trans (hb.mono hc.1.size),hkb.cell_some hc.2.1 id,hkb.cell_some hc.2.2 id⟩ rfl
 dsimp only [List.nil_append,List.cons_append]
 refine Jz ?_
 intro w2 hc2 hk2
 simp only [finG,forall_eq,List.nil_append,List.cons_append,List.drop_succ_cons,List.drop_zero,List.drop_nil]
 simp only [Act.put,List.setIfInBounds_toArray,List.set_cons_succ,List.set_cons_zero]
 have HB2:=Lib.hid hc2.1
 have c2:=hc2.2.1
 have f2:=(hc2.1.block _ (by omega)).trans (show w1.heap[w.heap.size]? = _ from HXX.out)
 have g0:=(zW f2 0 _ rfl).1
 have g1:=(zW f2 1 _ rfl).1
 clear hc2 hk2 hc1
 cases r with
 | true=>
   obtain⟨hlt,hz⟩:=zhT HHIT.out
   have hout2:=HO1.out.keep (w':=w2) HB2.out.size fun k hk=>HB2.out.block k hk
   have HO2:=Lib.hid hout2
   obtain⟨xs,hxs,hel⟩:=id hout2
   obtain⟨a,b,ea,eb,dva,dvb⟩:=hel i hlt
   obtain⟨g,cap',cur,ev,hgb,hgl,hgc,_,_,_,_⟩:=hxs.cases.resolve_left (fun h=>by omega)
   obtain⟨rfl,_,rfl⟩:ad=some ⟨g,0,none⟩/\o.length=o.length/\cap=cap':=by simpa using ev
   have cia:w2.cell? ⟨g,i * 2,none⟩=some a:=by
    have:=World.ownsRow.cells hxs.1 (g:=g) rfl (i * 2) a ea
    rw [zh,Nat.zero_add] at this
    exact this
   have hbk:∀ k,(Value.slice (some ⟨g,0,none⟩) o.length cap).ownBlock=some k->rb+1<k/\k<w2.heap.size:=fun k hk=>by have:=hout2.owns k hk;omega
   obtain⟨ai,ci,rfl⟩:=zK dva
   have hun:∀ W,Below w2.heap.size w2 W->Calls Tryz.prog 69 #[.slice ai o[i].items.length ci,.slice aa f.items.length ca] W fun e w'=>∃ u,e=.returned u/\Below W.heap.size W w'/\Dat (DX C (rb+1) w' (.slice (some ⟨g,0,none⟩) o.length cap)) w' u (rg (qy zn o[i].items f.items)):=fun W hW=>
    zeo (hok.gi.ok _ (List.getElem_mem hlt)).2.2.1 hok.fo.2.2.1 (by have:=hok.oi _ (List.getElem_mem hlt);have:=hok.fi;omega) (DX.keep dva hW.size fun k hk _=>hW.block k hk) (DX.keep HDA.out (Nat.le_trans HB2.out.size hW.size) fun k hk _=>(hW.block k (Nat.lt_of_lt_of_le hk HB2.out.size)).trans (HB2.out.block k hk)) (fun k hk=>⟨(hbk k hk).1,Nat.lt_of_lt_of_le (hbk k hk).2 hW.size⟩) (fun b o h=>Nat.lt_succ_of_lt (hC b o h)) (by have:=HB2.out.size;have:=hW.size;omega) (HG1.out.mono (fun _ _ h=>h) fun b o x hc hx=>(World.cell?_of_block (a:=⟨b,o,none⟩) ((hW.block b (by have:=hC b o hc;have:=HB2.out.size;omega)).trans (HB2.out.block b (by have:=hC b o hc;omega)))).trans hx)
   have HUN:=Lib.hid hun
   have hc3:Below w2.heap.size w2 w2.drew:=(Below.refl _ _).drew
   have HGC:=Lib.hid hgc
   have hcap:0<cap:=by omega
   have hs2:=HB2.out.size
   clear hun hout2 hxs hel ea eb dva dvb hgc hbk
   obtain⟨wb,hwb⟩:∃ wb,wb=w2:=⟨_,rfl⟩
   subst hwb
   go_wp2_with fail
   refine Kg (Sw:=qe) 16 51 (fun w9=>Below wb.heap.size wb w9/\w9.cell? ⟨rb,0,none⟩=some (.slice (some ⟨g,0,none⟩) o.length cap)/\w9.cell? ⟨g,i * 2,none⟩=some (.slice ai o[i].items.length ci)/\w9.cell? ⟨w.heap.size,0,none⟩=some (.slice aa f.items.length ca)) (by kernel_rfl) (by kernel_rfl) rfl ⟨hc3,c2,cia,g0⟩ ?_
   simp only [List.take_succ_cons,List.take_zero]
   refine Jz ?_
   refine V7 (fun u w9=>Dat (DX C (rb+1) w9 (.slice (some ⟨g,0,none⟩) o.length cap)) w9 u (rg (qy zn o[i].items f.items))) (fun u wa wb h hk=>DX.keep h hk.size fun k hk2 _=>hk.block k hk2 id) rfl ?_ ?_
   ·intro a2 w2 hc hk hr K hK
    have HK:=Lib.hid hK
    clear hK
    simp [Rds,zA,lk,Op.operands,Call.operands,RdEq] at hr
    go_simp
    refine(HUN.out _ hc.1).mono ?_
    rintro e w3 ⟨u,rfl,hb,hd⟩
    have hkb:Keep qe _ w3:=Keep.of_below' hb (Nat.le_refl _)
    exact HK.out _ _ hkb ⟨hc.1.trans (hb.mono hc.1.size),hkb.cell_some hc.2.1 id,hkb.cell_some hc.2.2.1 id,hkb.cell_some hc.2.2.2 id⟩ hd
   dsimp only [List.nil_append,List.cons_append]
   refine Jz ?_
   intro w2 hc2 hk2
   simp only [finG,forall_eq,List.nil_append,List.cons_append,List.drop_succ_cons,List.drop_zero,List.drop_nil]
   simp only [Act.put,List.setIfInBounds_toArray,List.set_cons_succ,List.set_cons_zero]
   intro u hu
   obtain⟨au,cu,rfl⟩:=zK hu
   have HU:=Lib.hid hu
   have HC3:=Lib.hid hc2.1
   have c3:=hc2.2.2.1
   have f3:w2.frozen? ⟨g,i * 2,none⟩=false:=by
    have:=(hc2.1.block g hgl).trans HGC.out
    simp [World.frozen?,this]
   clear hu hc2 hk2 hc3 c2 cia g0 g1 f2
   go_wp2
   (try simp only [Exit.inBlock,Exit.then]);refine bodyPost_ret (results_none rfl _ _ _) rfl ?_
   have hfin:=(HO2.out.keep (w':=w2) HC3.out.size fun k hk=>HC3.out.block k hk).set hlt HU.out hcap
   have hins:qN o f=o.take i++⟨qy zn o[i].items f.items,o[i].vec⟩::o.drop (i+1):=by
    rw [HINS.out,dif_pos hlt,if_pos hz,<-YU hz]
   rw [hins]
   refine⟨⟨_,rfl⟩,_,?_,hfin,?_⟩
   ·refine(Below.heap_setCell _ _ _ _ (by show rb≠g;omega)).trans ((HC3.out.block rb (by omega)).trans ((HB2.out.block rb (by omega)).trans HX1.out))
   ·have hk1:Keep (fun k=>k=rb\/base<=k) w w1:=by rw [HW1.out];exact(Keep.refl _ w).alloc _
    exact((hk1.trans (Keep.of_below' HB2.out (Nat.le_refl _))).trans (Keep.of_below' HC3.out (Nat.le_refl _))).setCell (fun _=>.inr hgb) _
 | false=>
   have hins:qN o f=o.take i++f::o.drop i:=by
    rw [HINS.out]
    have hh:=HHIT.out
    unfold zc1 at hh
    split at hh
    ·rename_i h
     rw [dif_pos h,if_neg (by simpa using hh)]
    ·rename_i h
     rw [dif_neg h,List.take_of_length_le (by omega),List.drop_of_length_le (by omega)]
   have HI2:=Lib.hid hins
   have hs2:=HB2.out.size
   have hcl:∀ W,Below w2.heap.size w2 W->Calls Tryz.prog 59 #[.slice aa f.items.length ca] W fun e w'=>∃ au cu,e=.returned (.slice au f.items.length cu)/\OwnR W.heap.size w' (.slice au f.items.length cu) f.items/\Below W.heap.size W w':=fun W hW=>by
    have hda:=DX.keep HDA.out (Nat.le_trans hs2 hW.size) fun k hk _=>(hW.block k (Nat.lt_of_lt_of_le hk hs2)).trans (HB2.out.block k hk)
    refine(zeX (je hda (fun b o h=>h.1.elim (fun h=>by have:=hC b o h;have:=hW.size;omega) And.right) hok.fo.2.2.1.lt) (by have:=hok.fi;omega) hok.fo.2.2.2).mono ?_
    rintro e w' ⟨v',rfl,h1,h2⟩
    obtain⟨au,cu,rfl⟩:=zK (jp (D:=fun _ _=>True) h1.rd fun _ _ _ _=>trivial)
    exact⟨au,cu,rfl,h1,h2⟩
   have HCL:=Lib.hid hcl
   clear hcl hins
   have hc3:Below w2.heap.size w2 w2.drew:=(Below.refl _ _).drew
   obtain⟨wb,hwb⟩:∃ wb,wb=w2:=⟨_,rfl⟩
   subst hwb
   go_wp2_with fail
   refine znC [1,2,3,4,5,6,7,8,9,10,11,12,0,13,14,15,16] 12 51 (fun w9=>Below wb.heap.size wb w9/\w9.cell? ⟨rb,0,none⟩=some (.slice ad o.length cap)/\w9.cell? ⟨w.heap.size,0,none⟩=some (.slice aa f.items.length ca)/\w9.cell? ⟨w.heap.size,1,none⟩=some (.slice av f.vec.length cv)) mixed (by kernel_rfl) (by kernel_rfl) rfl ⟨hc3,c2,g0,g1⟩ _ _ rfl rfl rfl rfl _ rfl ?_
   simp only [z8,List.map_cons,List.map_nil,List.getD_cons_zero,List.getD_cons_succ,List.take_succ_cons,List.take_zero,List.drop_succ_cons,List.drop_zero]
   repeat (refine Pl.wdetK ?_ rfl (fun a w hc _ hr=>?_) ?_;rotate_left;(simp [Pl.Rds,zA,Pl.lk,Op.operands,Call.operands,RdEq] at hr;go_simp;with_reducible rfl);dsimp only [List.nil_append,List.cons_append])
   refine Pl.wgenK (fun u w9=>∃ au cu,u=.slice au f.items.length cu/\OwnR wb.heap.size w9 u f.items) (fun u _ _ h hk=>by obtain⟨au,cu,e,h⟩:=h;exact⟨au,cu,e,h.keep hk fun _ _ h=>h⟩) rfl ?_ ?_
   ·intro a2 w2 hc hk hr K hK
    have HK:=Lib.hid hK
    clear hK
    simp [Pl.Rds,zA,Pl.lk,Op.operands,Call.operands,RdEq] at hr
    go_simp
    refine(HCL.out _ hc.1).mono ?_
    rintro e w3 ⟨au,cu,rfl,ho,hb⟩
    have hkb:Keep qe _ w3:=Keep.of_below' hb (Nat.le_refl _)
    exact HK.out _ _ hkb ⟨hc.1.trans (hb.mono hc.1.size),hkb.cell_some hc.2.1 id,hkb.cell_some hc.2.2.1 id,hkb.cell_some hc.2.2.2 id⟩ ⟨au,cu,rfl,ho.mono hc.1.size⟩
   dsimp only [List.nil_append,List.cons_append]
   repeat (refine Pl.wdetK ?_ rfl (fun a w hc _ hr=>?_) ?_;rotate_left;(simp [Pl.Rds,zA,Pl.lk,Op.operands,Call.operands,RdEq] at hr;go_simp;with_reducible rfl);dsimp only [List.nil_append,List.cons_append])
   refine Pl.wgenK (fun u w9=>∃ au cu,u=.agg #[.slice au f.items.length cu,.slice av f.vec.length cv]/\OwnR wb.heap.size w9 (.slice au f.items.length cu) f.items) (fun u _ _ h hk=>by obtain⟨au,cu,e,h⟩:=h;exact⟨au,cu,e,h.keep hk fun _ _ h=>h⟩) rfl ?_ ?_
   ·intro a2 w2 hc hk hr K hK
    have HK:=Lib.hid hK
    clear hK
    simp [Pl.Rds,zA,Pl.lk,Op.operands,Call.operands,RdEq] at hr
    obtain⟨⟨_,⟨e1,e2⟩,⟨au,cu,rfl⟩,ho⟩,e3,e4⟩:=hr
    go_simp
    exact HK.out _ _ (Keep.refl _ _) hc ⟨au,cu,rfl,ho⟩
   dsimp only [List.nil_append,List.cons_append]
   refine Pl.wgenK (fun u w9=>∃ vb au cu vt,u=.slice (some ⟨vb,0,none⟩) 1 1/\w9.heap[vb]? = some (.cells #[.slice au f.items.length cu,.slice av f.vec.length cv] vt (0,0))/\wb.heap.size<=vb/\OwnR wb.heap.size w9 (.slice au f.items.length cu) f.items) (fun u _ _ h hk=>by obtain⟨vb,au,cu,vt,e,h1,h2,h3⟩:=h;exact⟨vb,au,cu,vt,e,hk.obj h1 id,h2,h3.keep hk fun _ _ h=>h⟩) rfl ?_ ?_
   ·intro a2 w2 hc hk hr K hK
    have HK:=Lib.hid hK
    clear hK
    simp [Pl.Rds,zA,Pl.lk,Op.operands,Call.operands,RdEq] at hr
    obtain⟨_,⟨e1,e2⟩,au,cu,rfl,ho⟩:=hr
    go_simp
    refine HK.out _ _ ((Keep.refl _ _).alloc _) ⟨hc.1.alloc hc.1.size _,?_,?_,?_⟩ ⟨w2.heap.size,au,cu,_,rfl,World.alloc_heap_new w2 _,hc.1.size,ho.keep ((Keep.refl qe _).alloc _) fun _ _ h=>h⟩
    ·exact((Keep.refl qe _).alloc _).cell_some hc.2.1 id
    ·exact((Keep.refl qe _).alloc _).cell_some hc.2.2.1 id
    ·exact((Keep.refl qe _).alloc _).cell_some hc.2.2.2 id
   dsimp only [List.nil_append,List.cons_append]
   repeat (refine Pl.wdetK ?_ rfl (fun a w hc _ hr=>?_) ?_;rotate_left;(simp [Pl.Rds,zA,Pl.lk,Op.operands,Call.operands,RdEq] at hr;go_simp;with_reducible rfl);dsimp only [List.nil_append,List.cons_append])
   have hfin:∀(w2:World) (vb:Nat) (au cu) (vt:TypeId),Below wb.heap.size wb w2->w2.heap[vb]? = some (.cells #[.slice au f.items.length cu,.slice av f.vec.length cv] vt (0,0))->wb.heap.size<=vb->OwnR wb.heap.size w2 (.slice au f.items.length cu) f.items ->
    Calls Tryz.prog 166 #[.slice ad o.length cap,.int .i64 (i:Nat),.slice (some ⟨vb,0,none⟩) 1 1] w2 fun e w3=>∃ g3 cap3,e=.returned (.slice (some ⟨g3,0,none⟩) (o.length+1) cap3)/\Boxed w3 rb 142 (.slice ad o.length cap)/\OutG C (rb+1) base (w3.setCell ⟨rb,0,none⟩ (.slice (some ⟨g3,0,none⟩) (o.length+1) cap3)) (.slice (some ⟨g3,0,none⟩) (o.length+1) cap3) (qN o f)/\Keep (fun k=>k=rb\/base<=k) w w3:=by
    intro w2 vb au cu vt hB2 hvb hvb2 how
    have hout9:=(HO1.out.keep (w':=wb) hs2 fun k hk=>HB2.out.block k hk).keep (w':=w2) hB2.size fun k hk=>hB2.block k hk
    obtain⟨xs,hxs,hel⟩:=id hout9
    have hso:=(HO1.out.keep (w':=wb) hs2 fun k hk=>HB2.out.block k hk).owns
    refine(Q1 base vb vt w2 _ o.length xs _ _ i rfl rfl hi hxs hvb (fun e=>by have:=(hso vb e).2;omega) (by have:=hok.l;omega) (by have:=hB2.size;omega)).mono ?_
    rintro e w3 ⟨v',rfl,ho3,hg3,hv3⟩
    have hsz:=hB2.size
    have hp:Dat (DX C (rb+1) w2 (.slice ad o.length cap)) w2 (.slice au f.items.length cu) (rg f.items):=jp how.rd fun b o h1 h2=>⟨.inr ⟨by omega,h2⟩,fun e=>by have:=(hso b e).2;omega⟩
    have hq:Dat (DX C (rb+1) w2 (.slice ad o.length cap)) w2 (.slice av f.vec.length cv) (vp f.vec):=DX.keep HDV.out (by omega) fun k hk _=>(hB2.block k (by omega)).trans (HB2.out.block k hk)
    have hfo:=OutG.ins hi hxs.2.1 hel hp hq (fun b o h=>Nat.lt_succ_of_lt (hC b o h)) (by omega) ho3 hg3 hv3
    obtain⟨g3,cap3,cur3,rfl,_⟩:=ho3.cases.resolve_left fun h=>by omega
    have hbx3:Boxed w3 rb 142 (.slice ad o.length cap):=Boxed.kept ((hB2.block rb (by omega)).trans ((HB2.out.block rb (by omega)).trans HX1.out)) hg3 fun e=>by have:=(hso rb e.symm);have:=(hxs.1.lt rb e.symm).1;omega
    refine⟨g3,cap3,rfl,hbx3,?_,?_⟩
    ·rw [HI2.out]
     exact hfo.box (by omega) (by omega) fun b o h=>by have:=hC b o h;omega
    ·have hk1:Keep (fun k=>k=rb\/base<=k) w w1:=by rw [HW1.out];exact(Keep.refl _ w).alloc _
     exact(((hk1.trans (Keep.of_below' HB2.out (Nat.le_refl _))).trans (Keep.of_below' hB2 (Nat.le_refl _)))).grown hg3 fun k hk _=>.inr (hxs.1.lt k hk).1
   have HFIN:=Lib.hid hfin
   clear hfin
   refine⟨fun w2 hc2 hk2=>?_,fun w2 hc2 hk2=>?_⟩<;>(simp only [Pl.finG,forall_eq,List.nil_append,List.cons_append,List.take_succ_cons,List.take_zero,List.drop_succ_cons,List.drop_zero,List.drop_nil,jA,Option.map_none];simp only [Act.put,List.setIfInBounds_toArray,List.set_cons_succ,List.set_cons_zero])
   ·rintro _ ⟨au0,cu0,rfl,_⟩ _ ⟨au1,cu1,rfl,_⟩ _ ⟨vb,au,cu,vt,rfl,hvb,hvb2,how⟩
    have HQ:=Lib.hid (HFIN.out w2 vb au cu vt hc2.1 hvb hvb2 how)
    clear hvb how hc2 hk2
    go_wp2_with (first
     | (go_at_call 166;refine HQ.out.mono ?_;rintro e w3 ⟨g3,cap3,rfl,hbx3,ho3,hk3⟩
        have HO3:=Lib.hid ho3
        have HK3:=Lib.hid hk3
        have HX3:=Lib.hid hbx3
        have c9:=hbx3.cell
        have f9:=hbx3.frozen
        clear ho3 hk3 hbx3)
     | go_in)
    go_end0
    exact⟨⟨_,rfl⟩,_,HX3.out.set _,HO3.out,HK3.out.setCell (fun _=>.inl rfl) _⟩
   ·rintro _ ⟨au0,cu0,rfl,_⟩ _ ⟨au1,cu1,rfl,_⟩ _ ⟨vb,au,cu,vt,rfl,hvb,hvb2,how⟩
    have HQ:=Lib.hid (HFIN.out w2 vb au cu vt hc2.1 hvb hvb2 how)
    clear hvb how hc2 hk2
    go_wp2_with (first
     | (go_at_call 166;refine HQ.out.mono ?_;rintro e w3 ⟨g3,cap3,rfl,hbx3,ho3,hk3⟩
        have HO3:=Lib.hid ho3
        have HK3:=Lib.hid hk3
        have HX3:=Lib.hid hbx3
        have c9:=hbx3.cell
        have f9:=hbx3.frozen
        clear ho3 hk3 hbx3)
     | go_in)
    go_end0
    exact⟨⟨_,rfl⟩,_,HX3.out.set _,HO3.out,HK3.out.setCell (fun _=>.inl rfl) _⟩
end Go.Proofs.YtonhfknjcbakiaaGreatDoor
namespace Go.Proofs.YtonhfknjcbakiaaGreatDoor
open Go.RowKit
theorem X3 {k:List Fg} (h:vx k=true):k.length<=12/\∀ f ∈ k,f.items.length<=20/\f.vec.length<=20/\∀ e ∈ f.vec,e.holes.length<=30:=by
 obtain⟨h1,h2⟩:=Z3.1 h
 exact⟨h2,fun f hf=>⟨(h1 f hf).1,(vw.1 (h1 f hf).2).2,(vw.1 (h1 f hf).2).1⟩⟩
theorem zcS {k:List Fg} (h:vx k=true):SzK k:=by
 obtain⟨h1,h2⟩:=X3 h
 exact⟨by omega,fun f hf=>by
  obtain⟨q1,q2,q3⟩:=h2 f hf
  exact⟨by omega,by omega,fun e he=>by have:=q3 e he;omega⟩⟩
end Go.Proofs.YtonhfknjcbakiaaGreatDoor
