import Derived.Test.YtonhfknjcbakiaaGreatDoorB22
import Derived.Test.YtonhfknjcbakiaaGreatDoorB23
import Derived.Test.YtonhfknjcbakiaaGreatDoorB24
import Derived.Test.YtonhfknjcbakiaaGreatDoorB25
import Derived.Test.YtonhfknjcbakiaaGreatDoorB41
import Derived.Test.YtonhfknjcbakiaaGreatDoorB42
import Derived.Test.YtonhfknjcbakiaaGreatDoorB43
set_option maxHeartbeats 16000000
set_option linter.unusedVariables false
set_option linter.unusedSimpArgs false
set_option maxRecDepth 100000
namespace Go.Proofs.YtonhfknjcbakiaaGreatDoor
open Go.RowKit
theorem zap (a:List Nat) (x:Nat) (hl:(srt a).length<=4194304):Cn Tryz.prog 145 [ns (srt a),.v (.int .u64 x)] (ns (srt (a++[x]))):=by
 refine yZ rfl (enters_of Tryz.func145 (by kernel_rfl) rfl) fun D w C B y j u=>?_
 rw [zeJ j,(u 1 _ rfl).v_inv]
 refine(zbw D a x _ w hl (u 0 _ rfl) y).mono ?_
 rintro e E ⟨v,rfl,hb,A⟩
 exact⟨v,rfl,hb,A⟩
theorem VW {v:List En} {xs:List Nat} {k:Nat} (u:v.length<=1048576) (w:xs.length<=1048576):(srt (xs++zM (v.take k))).length<=4194304:=by
 have a:=ju (xs++zM (v.take k))
 have j:(v.take k).length<=1048576:=Nat.le_trans (List.length_take_le' _ _) u
 simp only [zM,List.length_append,List.length_map] at a j
 simp only [zM]
 omega
theorem YH {v:List En} {k:Nat} (h:k<v.length):zM (v.take (k+1))=zM (v.take k)++[v[k].rep]:=by
 unfold zM
 rw [List.take_succ_eq_append_getElem h,List.map_append]
 rfl
theorem zcC (a b:List En) (op:Nat) (ho:op<3) (B:SmV a) (hb:SmV b):Cn Tryz.prog 96 [vp a,vp b,.v (.int .i64 op)] (vp (ks (Qj op) a b)):=by
 have K:=B.2.1
 have M:=hb.2.1
 have N:Qj op false false=false:=by
  match op,ho with
  | 0,_=>rfl
  | 1,_=>rfl
  | 2,_=>rfl
 refine zhs Tryz.func96 [] 3 (by kernel_rfl) rfl (by simp [go_sem,seval]) 14 (.dr [⟨(some 47),none,(.mv (.t 7))⟩,⟨(some 48),none,(.mv (.t 11))⟩,⟨(some 49),none,(.ia (.t 47) (.t 48) 1)⟩,⟨(some 50),none,(.ld (.t 49) false 1)⟩,⟨(some 51),none,(.mv (.t 0))⟩,⟨(some 52),none,(.mv (.t 7))⟩,⟨(some 53),none,(.mv (.t 11))⟩,⟨(some 54),none,(.ia (.t 52) (.t 53) 1)⟩,⟨(some 55),none,(.ld (.t 54) false 1)⟩,⟨(some 56),none,(.ca 148 [(.t 51),(.t 55)])⟩,⟨(some 57),none,(.mv (.t 1))⟩,⟨(some 58),none,(.mv (.t 7))⟩,⟨(some 59),none,(.mv (.t 11))⟩,⟨(some 60),none,(.ia (.t 58) (.t 59) 1)⟩,⟨(some 61),none,(.ld (.t 60) false 1)⟩,⟨(some 62),none,(.ca 148 [(.t 57),(.t 61)])⟩,⟨(some 63),none,(.mv (.t 2))⟩,⟨(some 64),none,(.ca 147 [(.t 56),(.t 62),(.t 63)])⟩,⟨(some 65),none,(.ca 146 [(.t 50),(.t 64)])⟩,⟨(some 46),none,(.mv (.t 65))⟩,⟨(some 66),none,(.ex (.t 46) 0)⟩,⟨(some 67),none,(.ex (.t 46) 1)⟩] [⟨(some 12),none,(.al [(.v (.int .u64 0)),(.v (.int .u64 0)),(.sl [] .sh)])⟩,⟨none,none,(.st (.t 12) (.t 66) 3)⟩,⟨(some 13),none,(.mv (.t 67))⟩]) rfl (by kernel_rfl) ?_
 conv=>enter [4,6];(unfold xN;simp only [Tryz.f96])
 simp only [pcT,Nat.reduceEqDiff,if_false,if_true,reduceIte]
 repeat (conv in (zgV _ _ _ _ _ _)=>cbv)
 repeat (conv in (zgW _)=>cbv)
 conv=>enter [5,1];cbv
 refine pw ?_
 refine pLoop.go (fun k=>k<=a.length) (fun k=>[(7,ns (srt ([]++zM (a.take k)))),(8,.v (.int .i64 (k:Nat)))]) (fun _=>[]) (fun k=>a.length - k) 0 [7,8] ?_ ?_ ?_
 ·exact Nat.zero_le _
 ·simp only [List.take_zero,zM,List.map_nil,List.append_nil,XB]
  exact pd
 ·rintro k hk
  refine pw ?_
  refine .i ?_ ?_<;>intro h<;>(try simp only [nrm_l] at h)<;>first | refine pw ?_ | exact pd
  ·refine .c (zap ([]++zM (a.take k)) a[k].rep (VW (xs:=[]) K (by simp))) ?_
   refine⟨k+1,h,by omega,?_,rfl⟩
   rw [YH h]
  ·rw [show k=a.length by omega,List.take_length]
   refine pLoop.go (fun k=>k<=b.length) (fun k=>[(7,ns (srt (zM a++zM (b.take k)))),(9,.v (.int .i64 (k:Nat)))]) (fun _=>[]) (fun k=>b.length - k) 0 [7,9] ?_ ?_ ?_
   ·exact Nat.zero_le _
   ·simp only [List.take_zero,zM,List.map_nil,List.append_nil]
    exact pd
   ·rintro k hk
    refine pw ?_
    refine .i ?_ ?_<;>intro C<;>(try simp only [nrm_l] at C)<;>first | refine pw ?_ | exact pd
    ·refine .c (zap (zM a++zM (b.take k)) b[k].rep (VW (xs:=zM a) M (by simp [zM];omega))) ?_
     refine⟨k+1,C,by omega,?_,rfl⟩
     rw [YH C,List.append_assoc]
    ·rw [show k=b.length by omega,List.take_length]
     obtain⟨L,y⟩:∃ L,L=srt (zM a++zM b):=⟨_,rfl⟩
     have H:L.length<=2097152:=by
      have E:=ju (zM a++zM b)
      simp only [zM,List.length_append,List.length_map] at E
      rw [y]
      simp only [zM]
      omega
     have I:∀ r ∈ L,r<M64:=by rw [y];exact Xr B.1 hb.1
     have u:ks (Qj op) a b=L.filterMap (vE (Qj op) a b):=by rw [y];rfl
     rw [<-y,u]
     clear u y
     refine pLoop.go (fun k=>k<=L.length) (fun k=>[(10,.sl (((L.take k).filterMap (vE (Qj op) a b)).map ec) (.r 72 3)),(11,.v (.int .i64 (k:Nat)))]) (fun _=>[]) (fun k=>L.length - k) 0 [10,11,72] ?_ ?_ ?_
     ·exact Nat.zero_le _
     ·simp only [List.take_zero,List.filterMap_nil,List.map_nil]
      exact pd
     ·rintro k hk
      have G:((L.take k).filterMap (vE (Qj op) a b)).length<=k:=Nat.le_trans (List.length_filterMap_le _ _) (by simp;omega)
      refine pw ?_
      refine .i ?_ ?_<;>intro A<;>(try simp only [nrm_l] at A)<;>first | refine pw ?_ | exact pd
      ·have ka:=qS B L[k]
       have kb:=qS hb L[k]
       have J:(qy (Qj op) (zT a L[k]) (zT b L[k])).length<=80100:=by
        have E:=xR (Qj op) (zT a L[k]) (zT b L[k])
        omega
       have j:=zg1 L[k] (qy (Qj op) (zT a L[k]) (zT b L[k])) (qH ka.1 kb.1) (by omega)
       have w:=KZ (f:=Qj op) (a:=a) (b:=b) A
       obtain⟨e,ok,F⟩:∃ e ok,Qi L[k] (qy (Qj op) (zT a L[k]) (zT b L[k]))=(e,ok):=⟨_,_,rfl⟩
       rw [zac F] at w
       rw [F] at j
       refine .c (kD a L[k] B) ?_
       refine .c (kD b L[k] hb) ?_
       refine .c (zhw (zT a L[k]) (zT b L[k]) op ka.1 kb.1 ho (by omega) (by omega)) ?_
       cases ok with
       | true=>
         (first | refine .c (j) ?_ | refine .o (j) ?_)
         refine⟨k+1,A,by omega,?_,rfl⟩
         rw [w]
         simp
         rfl
       | false=>
         (first | refine .c (j) ?_ | refine .o (j) ?_)
         refine⟨k+1,A,by omega,?_,rfl⟩
         rw [w]
         simp
      ·rw [show k=L.length by omega,List.take_length]
theorem zrm (r c:Nat) (a:c<M64):Cn Tryz.prog 144 [.v (.int .u64 r),.v (.int .u64 c)] (vp (zl9 r c)):=by
 refine zt Tryz.func144 2 ?_
 refine pw ?_
 refine .c (zg1 r [⟨c,c⟩] (zmc a) (by simp)) ?_
 rfl
theorem SmV.g {v:List En} (h:SmV v):v.length<=1152921504606846976/\∀ e ∈ v,e.holes.length<=1152921504606846976:=⟨by have:=h.2.1;omega,fun e a=>by have:=h.2.2 e a;omega⟩
theorem WV.smv {C:Nat->List Nat} {R:List Nat} {v:List En} (h:WV C R v) (ok:OkC C R):SmV v:=(h.bv ok.1 ok.2).mono (Nat.le_refl _) (by omega)
theorem zfh {k:List Fg} (h:vx k=true) (u:RightK k) {f:Fg} (a:f ∈ k):SmV f.vec:=by
 have:=vw.1 ((Z3.1 h).1 f a).2
 exact⟨(u f a).2,by omega,fun e j=>by have:=this.1 e j;omega⟩
theorem kH {D:Nat->Nat->Prop} {w:World} {x:Value} {j:List (List PV)} {o:Ow} (h:Dat D w x (.sl j o)):∃ s:Sv,x=sv s/\s.2.1=j.length:=by
 obtain⟨u,a,A,b,y,f,e1,_⟩:=(Rel.dat (ρ:=fun _=>0) (nb:=0) h).inv_sl
 exact⟨(u,j.length,a),e1,rfl⟩
theorem kX {D:Nat->Nat->Prop} {N:Nat} {w:World} {v:Value} {k:List Fg} (h:Dat D w v (kp k)) (O:∀ b o,D b o->b<N) :
 ∃ a y C,v=.slice a k.length y/\∃ hl:C.length=k.length,zeF N w a y C/\∀ i (h:i<C.length),Dat D w (sv C[i].1) (rg (k[i]'(hl ▸ h)).items)/\Dat D w (sv C[i].2) (vp (k[i]'(hl ▸ h)).vec):=by
 unfold kp at h
 generalize M:k.map fc=es at h
 cases h with
 | sl a y sz es o b off u hc hz hm ha hsz hd hx=>
   have hl:es.length=k.length:=by rw [<-M];simp
   have g:∀ i (h:i<k.length),es[i]? = some (fc k[i]):=fun i h=>by rw [<-M];exact xo h
   have B:∀ i,i<k.length->∃ f:Fv,∀ h:i<k.length,(sz=2/\u (i * 2)=sv f.1/\u (i * 2+1)=sv f.2)/\Dat D w (sv f.1) (rg k[i].items)/\Dat D w (sv f.2) (vp k[i].vec):=fun i hi=>by
    obtain rfl:2=sz:=hsz i _ (g i hi)
    have d0:Dat D w (u (i * 2+0)) (rg k[i].items):=hx i _ 0 _ (g i hi) rfl
    have H:Dat D w (u (i * 2+1)) (vp k[i].vec):=hx i _ 1 _ (g i hi) rfl
    obtain⟨P,G,_⟩:=kH d0
    obtain⟨Q,e1,_⟩:=kH H
    rw [G] at d0
    rw [e1] at H
    exact⟨(P,Q),fun _=>⟨⟨rfl,G,e1⟩,d0,H⟩⟩
   obtain⟨F,hF⟩:=Go.Deep.choose_lt B
   refine⟨a,y,(List.range k.length).map F,by rw [hl],by simp,⟨by simp;omega,hm,fun E=>?_⟩,fun i hi=>?_⟩
   ·have A:0<k.length:=by
     rcases Nat.eq_zero_or_pos k.length with I | I
     ·rw [I] at E;simp at E
     ·exact I
    obtain⟨⟨rfl,_⟩,_⟩:=hF 0 A A
    have J:es≠[]:=by intro e;subst e;simp at hl;omega
    refine⟨b,off,ha J,O _ _ (hd 0 (by omega)).1,fun i hi=>?_⟩
    have j:i<k.length:=by simpa using hi
    obtain⟨⟨_,G,e1⟩,_⟩:=hF i j j
    have K:=(hd (i * 2) (by omega)).2.1
    have L:=(hd (i * 2+1) (by omega)).2.1
    rw [G] at K
    rw [e1] at L
    simp only [List.getElem_map,List.getElem_range]
    exact⟨K,L⟩
   ·have j:i<k.length:=by simpa using hi
    simp only [List.getElem_map,List.getElem_range]
    exact(hF i j j).2
theorem zez {a:Nat->Bool} {p:Nat × Fv}:∀ {l:List Fv} {n:Nat},p ∈ wl a n l->∃ h:p.1 - n<l.length,n<=p.1/\p.2=l[p.1 - n]/\a p.1=true
 | [],n,h=>by cases h
 | f::l,n,h=>by
   unfold wl at h
   have j:p ∈ wl a (n+1) l->∃ h:p.1 - n<(f::l).length,n<=p.1/\p.2=(f::l)[p.1 - n]/\a p.1=true:=fun h=>by
    obtain⟨y,A,u,w⟩:=zez h
    refine⟨by simp;omega,by omega,?_,w⟩
    rw [u]
    have e:p.1 - n=(p.1 - (n+1))+1:=by omega
    simp only [e,List.getElem_cons_succ]
   split at h
   ·rename_i hh
    rcases List.mem_cons.1 h with rfl | h
    ·exact⟨by simp,Nat.le_refl _,by simp,hh⟩
    ·exact j h
   ·exact j h
theorem Yp {α:Type} {k:List Fg} {y:List Fv} (hl:y.length=k.length) (u:Nat) (step:α->Nat->Fg->α) (w:α) :
 (wl (fun j=>mem (k.getD j default).items u) 0 y).foldl (fun a p=>step a p.1 (k.getD p.1 default)) w=(qd u 0 k).foldl (fun a p=>step a p.1 p.2) w:=by
 have A:∀ j,j<=k.length->(wl (fun j=>mem (k.getD j default).items u) 0 (y.take j)).foldl (fun a p=>step a p.1 (k.getD p.1 default)) w=(qd u 0 (k.take j)).foldl (fun a p=>step a p.1 p.2) w:=by
  intro j
  induction j with
  | zero=>intro _;rfl
  | succ j ih=>
    intro B
    rw [XF (by omega),j9 u (by omega),List.foldl_append,List.foldl_append,ih (by omega)]
    have e:k.getD j default=k[j]:=by simp [List.getD_eq_getElem?_getD,List.getElem?_eq_getElem (show j<k.length by omega)]
    simp only [e]
    split
    ·show step _ j (k.getD j default)=step _ j k[j]
     rw [e]
    ·rfl
 have:=A k.length (Nat.le_refl _)
 rwa [<-hl,List.take_length,hl,List.take_length] at this
def V8 (k:List Fg) (i:Nat):PV:=.fn (.func 110) [] [.cp [kp k] 0,.cp [.v (.int .u64 i)] 0]
def zmf (k:List Fg):PV:=.fn (.func 113) [] [.cp [kp k] 0]
attribute [go_sem] V8 zmf
theorem zfB (k:List Fg) (i:Nat):Cn Tryz.prog 63 [kp k,.v (.int .u64 i)] (V8 k i):=by
 refine zt Tryz.func63 2 ?_
 exact pd
theorem zjy (v:List En) (i:Nat) (f:Fg) (j:SmV v) (a:SmV f.vec):Cn Tryz.prog 64 [vp v,.v (.int .i64 i),fp f] (vp (ks zn v f.vec)):=by
 refine zt Tryz.func64 3 ?_
 refine pw ?_
 exact .d (zdc v f.vec j a)
def InvD {α:Type} (D0:Nat->Nat->Prop) (n:Nat) (pv:α->PV) (P:α->Prop) (W:World) (u:Value) (a:α):Prop:=
 P a/\∃ D:Nat->Nat->Prop,GL D W/\(∀ b o,D b o->b<W.heap.size/\b≠n/\b≠n+2/\b≠n+3)/\(∀ b o,D b o->D0 b o\/n<=b)/\(∀ b o,D0 b o->D b o)/\Dat D W u (pv a)
section
variable {α:Type} {D0:Nat->Nat->Prop} {pv:α->PV} {P:α->Prop} {w W A B:World} {u:Value} {a:α}
theorem InvD.start {y:Value} (A:Dat D0 w y (.sl [] .sh)) (B:GL D0 w) (j:∀ b o,D0 b o->b<w.heap.size) (hb:Below w.heap.size w W) (C:P a) (F:pv a=.sl [] .sh):InvD D0 w.heap.size pv P W y a:=by
 have u:∀ b o x,D0 b o->w.cell? ⟨b,o,none⟩=some x->W.cell? ⟨b,o,none⟩=some x:=fun b o x E G=>(hb.cell (p:=⟨b,o,none⟩) (j b o E)).trans G
 refine⟨C,D0,B.mono (fun _ _ h=>h) u,fun b o h=>?_,fun _ _ h=>.inl h,fun _ _ h=>h,?_⟩
 ·have:=j b o h
  have:=hb.size
  exact⟨by omega,by omega,by omega,by omega⟩
 ·rw [F]
  exact A.mono (fun _ _ h=>h) u
theorem InvD.shape {n:Nat} (h:InvD D0 n pv P W u a) (A:∃ j,pv a=.sl j .sh):∃ y n c,u=.slice y n c:=by
 obtain⟨_,D,_,_,_,_,w⟩:=h
 obtain⟨j,e⟩:=A
 rw [e] at w
 obtain⟨s,rfl,_⟩:=kH w
 exact⟨_,_,_,rfl⟩
theorem InvD.keep {n:Nat} (h:InvD D0 n pv P A u a) (hk:Keep (fun k=>k=n\/k=n+2\/k=n+3) A B):InvD D0 n pv P B u a:=by
 obtain⟨H,D,C,w,E,F,G⟩:=h
 have y:∀ b o x,D b o->A.cell? ⟨b,o,none⟩=some x->B.cell? ⟨b,o,none⟩=some x:=fun b o x j I=>
  (World.cell?_of_block (a:=⟨b,o,none⟩) (hk.block b (w b o j).1 (by have:=w b o j;omega))).trans I
 exact⟨H,D,C.mono (fun _ _ h=>h) y,fun b o j=>⟨Nat.lt_of_lt_of_le (w b o j).1 hk.size,(w b o j).2⟩,E,F,G.mono (fun _ _ h=>h) y⟩
theorem zhD {D:Nat->Nat->Prop} {f:Fv} {g:Fg} (j:Dat D w (sv f.1) (rg g.items)) (u:Dat D w (sv f.2) (vp g.vec)):Dat D w (.agg #[sv f.1,sv f.2]) (fp g):=by
 refine .agg _ _ rfl (fun i hi=>?_) fun i p a=>?_
 ·match i,hi with
  | 0,_=>rfl
  | 1,_=>rfl
 ·match i,a with
  | 0,a=>cases a;exact j
  | 1,a=>cases a;exact u
  | i+2,a=>simp [fc] at a
theorem InvD.step {H:FuncId} {i:Nat} {f:Fv} {g:Fg} {F:α} (h:InvD D0 w.heap.size pv P W u a) (Q:∀ b o,D0 b o->b<w.heap.size) (hb:Below w.heap.size w W) (hs:w.heap.size+4<=W.heap.size) (N:Dat D0 w (sv f.1) (rg g.items)) (O:Dat D0 w (sv f.2) (vp g.vec))
 (T:Cn Tryz.prog H [pv a,.v (.int .i64 i),fp g] (pv F)) (S:P F) :
 Calls Tryz.prog H #[u,.int .i64 (i:Nat),.agg #[sv f.1,sv f.2]] W fun e E=>∃ K,e=.returned K/\InvD D0 w.heap.size pv P E K F/\Keep (zaB (w.heap.size+4) W) W E:=by
 obtain⟨_,D,I,C,L,J,M⟩:=h
 have U:∀ b o x,D0 b o->w.cell? ⟨b,o,none⟩=some x->W.cell? ⟨b,o,none⟩=some x:=fun b o x B G=>(hb.cell (p:=⟨b,o,none⟩) (Q b o B)).trans G
 refine(jP T I (fun b o h=>(C b o h).1) rfl (fun j p y=>?_)).mono ?_
 ·match j,y with
  | 0,y=>cases y;exact M
  | 1,y=>cases y;exact .v _
  | 2,y=>cases y;exact(zhD N O).mono J U
  | j+3,y=>simp at y
 ·rintro e E ⟨v,rfl,A,B⟩
  refine⟨v,rfl,⟨S,_,I.mono (fun _ _ h=>.inl h) fun b o x B G=>(A.cell (p:=⟨b,o,none⟩) (C b o B).1).trans G,fun b o h=>?_,fun b o h=>?_,fun b o h=>.inl (J b o h),B⟩,Keep.of_below' A (Nat.le_refl _)⟩
  ·rcases h with h | h
   ·exact⟨Nat.lt_of_lt_of_le (C b o h).1 A.size,(C b o h).2⟩
   ·exact⟨h.2,by omega,by omega,by omega⟩
  ·rcases h with h | h
   ·exact L b o h
   ·exact .inr (by omega)
theorem InvD.done (h:InvD D0 w.heap.size pv P W u a):Dat (fun b o=>D0 b o\/(w.heap.size<=b/\b<W.heap.size)) W u (pv a):=by
 obtain⟨_,D,C,j,y,E,A⟩:=h
 exact A.mono (fun b o h=>(y b o h).imp id fun B=>⟨B,(j b o h).1⟩) fun _ _ _ _ h=>h
end
theorem zcx {D:Nat->Nat->Prop} {w:World} {x:Value} {p:PV} (h:Dat D w x (.cp [p] 0)):∃ b o y,x=.pointer (some ⟨b,o,none⟩)/\D b o/\w.cell? ⟨b,o,none⟩=some y/\Dat D w y p:=by
 obtain⟨b,a,f,e,j,u⟩:=(Rel.dat (ρ:=fun _=>0) (nb:=0) h).inv_cp
 have:=j 0 (by simp)
 exact⟨b,a,f 0,e,by simpa using this.1,by simpa using this.2.1,u 0 p rfl⟩
theorem zbU {D:Nat->Nat->Prop} {w:World} {x:Value} {k:List Fg} {i:Nat} (h:Dat D w x (V8 k i)):∃ bk ok a oi v,x=.func (.func 110) #[] #[.pointer (some ⟨bk,ok,none⟩),.pointer (some ⟨a,oi,none⟩)]/\D bk ok/\D a oi/\w.cell? ⟨bk,ok,none⟩=some v/\w.cell? ⟨a,oi,none⟩=some (.int .u64 (i:Nat))/\Dat D w v (kp k):=by
 unfold V8 at h
 cases h with
 | fn f va vb fs cs h1 h2 h3 h4=>
   rw [Array.size_eq_zero_iff.1 h1]
   obtain⟨l⟩:=vb
   match l,h2 with
   | [y,z],_=>
     obtain⟨bk,ok,v,e1,B,A,E⟩:=zcx (h4 0 _ rfl)
     obtain⟨a,oi,u,e2,C,j,F⟩:=zcx (h4 1 _ rfl)
     rw [F.v_inv] at j
     simp at e1 e2
     subst e1 e2
     exact⟨bk,ok,a,oi,v,rfl,B,C,A,j,E⟩
theorem zfQ {D:Nat->Nat->Prop} {w:World} {x:Value} (h:Dat D w x (.sl [] .sh)):∃ j c,x=.slice j 0 c:=by
 obtain⟨⟨a,n,c⟩,rfl,e⟩:=kH h
 simp only [List.length_nil] at e
 subst e
 exact⟨a,c,rfl⟩
def SzK (k:List Fg):Prop:=k.length<=1152921504606846976/\∀ f ∈ k,f.items.length<=1152921504606846976/\f.vec.length<=1152921504606846976/\∀ e ∈ f.vec,e.holes.length<=1152921504606846976
theorem YM {D:Nat->Nat->Prop} {w:World} {k:List Fg} {i bk ok B oi:Nat} {a:Option Addr} {cap:Nat} {fs:List Fv} (hr:RightK k) (hz:SzK k) (hG:GL D w) (I:∀ b o,D b o->b<w.heap.size) (U:D bk ok) (V:D B oi) (S:w.cell? ⟨bk,ok,none⟩=some (.slice a k.length cap)) (T:w.cell? ⟨B,oi,none⟩=some (.int .u64 (i:Nat)))
 (hl:fs.length=k.length) (G:zeF w.heap.size w a cap fs) (K:∀ j (h:j<fs.length),Dat D w (sv fs[j].1) (rg (k[j]'(hl ▸ h)).items)/\Dat D w (sv fs[j].2) (vp (k[j]'(hl ▸ h)).vec)) {W:World} (hb:Below w.heap.size w W) :
 v7 Tryz.prog 110 #[.pointer (some ⟨bk,ok,none⟩),.pointer (some ⟨B,oi,none⟩)] Y4 (fun _=>False) (PtF w.heap.size bk B) (wl (fun j=>mem (k.getD j default).items i) 0 fs) W:=by
 have N:∀ b o x,D b o->w.cell? ⟨b,o,none⟩=some x->W.cell? ⟨b,o,none⟩=some x:=fun b o x A O=>(hb.cell (p:=⟨b,o,none⟩) (I b o A)).trans O
 refine zew fs _ a cap bk ok B oi w.heap.size i W ?_ (by rw [hl];exact N _ _ _ U S) (N _ _ _ V T) hb.size fun w' j C F M=>?_
 ·obtain⟨X,Y,Z⟩:=G
  refine⟨X,Y,fun L=>?_⟩
  obtain⟨b,y,e1,e2,P⟩:=Z L
  exact⟨b,y,e1,e2,fun j C=>⟨(hb.cell (p:=⟨b,y+j * 2,none⟩) e2).trans (P j C).1,(hb.cell (p:=⟨b,y+j * 2+1,none⟩) e2).trans (P j C).2⟩⟩
 ·have H:∀ b o x,D b o->w.cell? ⟨b,o,none⟩=some x->w'.cell? ⟨b,o,none⟩=some x:=fun b o x A O=>(World.cell?_of_block (a:=⟨b,o,none⟩) (F b (I b o A))).trans (N b o x A O)
  have E:j<k.length:=hl ▸ C
  have Q:=List.getElem_mem E
  have e:k.getD j default=k[j]:=by rw [List.getD_eq_getElem?_getD,List.getElem?_eq_getElem E];rfl
  simp only [e]
  refine(jP (ziQ k[j].items i (hr _ Q).1 (hz.2 _ Q).1) (hG.mono (fun _ _ h=>h) H) (fun b o h=>Nat.lt_of_lt_of_le (I b o h) M) rfl (fun t p u=>?_)).mono ?_
  ·match t,u with
   | 0,u=>cases u;exact(K j C).1.mono (fun _ _ h=>h) H
   | 1,u=>cases u;exact .v _
   | t+2,u=>simp at u
  ·rintro e W' ⟨v,rfl,J,A⟩
   rw [A.v_inv]
   exact⟨rfl,J⟩
def is (l:List Nat):PV:=.sl (l.map fun x=>[.v (.int .i64 (x:Nat))]) .sh
attribute [go_sem] is
theorem zfl {k:List Fg} {j:Nat} (h:j<k.length):k.getD j default=k[j]:=by rw [List.getD_eq_getElem?_getD,List.getElem?_eq_getElem h];rfl
theorem zf9 {α:Type} {pre a:List α} {p:α} (h:pre++[p] <+: a):p ∈ a:=h.subset (by simp)
theorem zfk {C:Nat->List Nat} {R:List Nat} (k:List Fg) (i:Nat) (hk:IK C R k) (ok:OkC C R) (hr:RightK k) (hs:∀ f ∈ k,SmV f.vec) (hz:SzK k) :
 Cn Tryz.prog 62 [V8 k i,.sl [] .sh,.fn (.func 64) [] []] (vp (qc k i)):=by
 refine yZ rfl (enters_of Tryz.func62 (by kernel_rfl) rfl) fun D w vs U y P K=>?_
 obtain⟨bk,ac,Y,oi,v,e0,Q,S,Z,c2,L⟩:=zbU (K 0 _ rfl)
 obtain⟨a,ab,T,rfl,hl,H,E⟩:=kX L y
 have j:=K 1 _ rfl
 obtain⟨I,J,e1⟩:=zfQ j
 rw [e1] at j
 rw [zjx P,e0,e1,zcA (K 2 _ rfl)]
 refine(X8 110 _ bk Y _ w I J (enters_of Tryz.func110 (by kernel_rfl) rfl) (fun W hb=>YM hr hz U y Q S Z c2 hl H E hb) (y _ _ Q) (y _ _ S)
  (InvD D w.heap.size vp (WV C R)) (fun o p=>ks zn o (k.getD p.1 default).vec) [] (fun W hb=>InvD.start j U y hb WV.nil rfl) (fun W u a h=>h.shape ⟨_,rfl⟩) (fun A B u a h hk=>h.keep hk) fun W u pre p G O hb h=>?_).mono ?_
 ·obtain⟨M,_,N,_⟩:=zez (zf9 G)
  have V:p.1<T.length:=by simpa using M
  have F:p.1<k.length:=hl ▸ V
  have X:=List.getElem_mem F
  have q:=E p.1 V
  have e:p.2=T[p.1]:=by rw [N];simp
  rw [zfl F,e]
  exact h.step y hb O q.1 q.2 (zjy _ p.1 k[p.1] (h.1.smv ok) (hs _ X)) (h.1.iv.lat fU0 (hk _ X))
 ·rintro e w' ⟨u,rfl,hI,hb⟩
  have h:=hI.done
  rw [Yp hl i (fun o _ f=>ks zn o f.vec) []] at h
  exact⟨u,rfl,hb,h⟩
theorem zdx {D:Nat->Nat->Prop} {base:Nat} {w:World} {v:Value} {l:List Nat} (h:OwnI base w v l) (F:∀ b o,base<=b->b<w.heap.size->D b o):Dat D w v (is l):=by
 unfold is
 have a:(l.map fun x=>[PV.v (.int .i64 (x:Nat))]).length=l.length:=by simp
 rcases id h.2 with⟨rfl,E⟩ | ⟨g,y,C,rfl,H,I,J,G,_⟩
 ·obtain rfl:l=[]:=List.length_eq_zero_iff.1 E
  exact .sl none 0 1 [] .sh 0 0 (fun _=>undef) (by simp) (fun h=>by cases h) (by unfold maxLen;omega) (fun h=>absurd rfl h) (fun i e h=>by simp at h) (fun j h=>by simp at h) (fun i e j p h=>by simp at h)
 ·rw [<-a]
  refine .sl _ y 1 _ .sh g 0 (fun j=>.int .i64 (l.getD j 0:Nat)) (by simpa using J) (fun h=>by cases h) G (fun _=>rfl) (fun i e h=>?_) (fun j B=>?_) (fun i e j p A u=>?_)
  ·simp only [List.getElem?_map,Option.map_eq_some_iff] at h
   obtain⟨s,_,rfl⟩:=h
   rfl
  ·simp only [List.length_map,Nat.mul_one] at B
   refine⟨F _ _ H (Array.getElem?_eq_some_iff.1 I).1,?_,rfl⟩
   rw [Nat.zero_add,h.cellAt _ (by simpa using B)]
   simp [B]
  ·have hi:i<l.length:=by have:=(List.getElem?_eq_some_iff.1 A).1;simpa using this
   rw [List.getElem?_map,List.getElem?_eq_getElem hi] at A
   cases A
   match j,u with
   | 0,u=>cases u;simp [hi];exact .v _
   | j+1,u=>simp at u
theorem zbj (l:List (Nat × Fv)):∀ a:List Nat,l.foldl (fun o p=>o++[p.1]) a=a++l.map Prod.fst:=by
 induction l with
 | nil=>intro a;simp
 | cons p l ih=>intro a;rw [List.foldl_cons,ih];simp
theorem JV (l:List (Nat × Fg)):∀ a:List Nat,l.foldl (fun o p=>o++[p.1]) a=a++l.map Prod.fst:=by
 induction l with
 | nil=>intro a;simp
 | cons p l ih=>intro a;rw [List.foldl_cons,ih];simp
theorem zey (a:Nat->Bool):∀(n:Nat) (l:List Fv),(wl a n l).length<=l.length
 | _,[]=>Nat.le_refl _
 | n,f::l=>by
   have:=zey a (n+1) l
   unfold wl
   split<;>simp<;>omega
theorem K9 (k:List Fg) (i:Nat) (hr:RightK k) (hz:SzK k) (ab:k.length<=1073741824):Cn Tryz.prog 57 [kp k,.v (.int .u64 i)] (is (zU k i)):=by
 refine yZ rfl (enters_of Tryz.func57 (by kernel_rfl) rfl) fun D w vs hG S Y N=>?_
 obtain⟨a,G,fs,e0,hl,I,K⟩:=kX (N 0 _ rfl) S
 rw [zeJ Y,e0,(N 1 _ rfl).v_inv]
 obtain⟨y,F⟩:∃ y,(w.alloc (.cells #[.slice a k.length G] 23)).alloc (.cells #[.int .u64 (i:Nat)] 24)=y:=⟨_,rfl⟩
 have ad:y.heap.size=w.heap.size+2:=by rw [<-F];simp
 have b1:Below w.heap.size w y:=by rw [<-F];exact((Below.refl _ _).alloc (Nat.le_refl _) _).alloc (by simp) _
 have x1:Boxed y w.heap.size 23 (.slice a k.length G):=by rw [<-F];exact(Boxed.new w _ _).alloc _
 have x2:Boxed y (w.heap.size+1) 24 (.int .u64 (i:Nat)):=by rw [<-F];have:=Boxed.new (w.alloc (.cells #[.slice a k.length G] 23)) 24 (.int .u64 (i:Nat));rw [World.size_alloc] at this;exact this
 have H:∀ b o x,D b o->w.cell? ⟨b,o,none⟩=some x->y.cell? ⟨b,o,none⟩=some x:=fun b o x N hx=>(b1.cell (p:=⟨b,o,none⟩) (S b o N)).trans hx
 obtain⟨E,J⟩:∃ E:Nat->Nat->Prop,E=fun b o=>D b o\/(w.heap.size<=b/\b<y.heap.size):=⟨_,rfl⟩
 have M:∀ b o,E b o->b<y.heap.size:=fun b o h=>by rw [J] at h;exact h.elim (fun h=>by have:=S b o h;omega) And.right
 have C:Calls Tryz.prog 106 #[.func (.func 110) #[] #[.pointer (some ⟨w.heap.size,0,none⟩),.pointer (some ⟨w.heap.size+1,0,none⟩)],.slice none 0 0,.func (.func 107) #[] #[]] y fun e T=>∃ u,e=.returned u/\OwnI (y.heap.size+4) T u (zU k i)/\Below y.heap.size y T:=by
  refine(X7 110 _ w.heap.size (w.heap.size+1) _ y none 0 (enters_of Tryz.func110 (by kernel_rfl) rfl) (fun W hb=>YM (D:=E) (a:=a) (cap:=G) (fs:=fs) hr hz (hG.mono (fun b o h=>by rw [J];exact .inl h) H) M (by rw [J];exact .inr (by omega)) (by rw [J];exact .inr (by omega)) x1.cell x2.cell hl ?_ (fun j O=>⟨(K j O).1.mono (fun b o h=>by rw [J];exact .inl h) H,(K j O).2.mono (fun b o h=>by rw [J];exact .inl h) H⟩) hb) (by omega) (by omega)
   (fun W u l=>OwnI (y.heap.size+4) W u l) (fun o p=>o++[p.1]) [] (fun W _=>OwnI.nil _ _) (fun W u a h=>h.shape) (fun A B u a h hk=>h.keep hk fun g hg _=>by omega) fun W u pre p P ae hb h=>?_).mono ?_
  ·obtain⟨Q,U,h3⟩:=I
   refine⟨Q,U,fun X=>?_⟩
   obtain⟨b,L,e1,e2,Z⟩:=h3 X
   exact⟨b,L,e1,by omega,fun j O=>⟨(b1.cell (p:=⟨b,L+j * 2,none⟩) e2).trans (Z j O).1,(b1.cell (p:=⟨b,L+j * 2+1,none⟩) e2).trans (Z j O).2⟩⟩
  ·have ac:pre.length<=k.length:=by
    have Q:=P.length_le
    have U:=zey (fun j=>mem (k.getD j default).items i) 0 fs
    simp only [List.length_append,List.length_cons,List.length_nil] at Q
    omega
   refine JY (y.heap.size+4) W u _ p.1 _ _ h (by omega) ?_
   rw [zbj]
   simp
   omega
  ·rintro e T ⟨u,rfl,hI,hb⟩
   rw [Yp hl i (fun o j _=>o++[j]) [],JV,List.nil_append] at hI
   exact⟨u,rfl,hI,hb⟩
 have HF:=Lib.hid C
 have HB:=Lib.hid b1
 clear C b1 x1 x2 H J M I K N hG S
 go_enter Tryz.func57,Tryz.ntmps57
 go_wp2_with (first
  | (go_at_call 63;refine(zex _ _ _ _ _).mono ?_;rintro e T ⟨rfl,rfl⟩;rw [F])
  | (go_at_call 106;refine HF.out.mono ?_;rintro e w2 ⟨u,rfl,ho,V⟩;obtain⟨au,nu,cu,rfl⟩:=ho.shape))
 go_ret
 exact⟨_,rfl,HB.out.trans (V.mono (by omega)),zdx ho fun b o Q U=>.inr (by omega)⟩
theorem zl6 {β:Type} (q:β->Bool):∀(l:List β) (b:Bool),l.foldl (fun b x=>b || q x) b=(b || l.any q)
 | [],b=>by simp
 | x::l,b=>by rw [List.foldl_cons,zl6 q l,List.any_cons,Bool.or_assoc]
theorem zo7 {k:List Fg} {u:List Fv} (hl:u.length=k.length) (a:Nat) (q:Fg->Bool) :
 (wl (fun j=>mem (k.getD j default).items a) 0 u).any (fun p=>q (k.getD p.1 default))=(qd a 0 k).any fun p=>q p.2:=by
 have h:=Yp hl a (fun b _ f=>b || q f) false
 have w:=zl6 (fun p:Nat × Fv=>q (k.getD p.1 default)) (wl (fun j=>mem (k.getD j default).items a) 0 u) false
 have y:=zl6 (fun p:Nat × Fg=>q p.2) (qd a 0 k) false
 rw [Bool.false_or] at w y
 rw [<-w,<-y]
 exact h
theorem zoW (k:List Fg) (i r c:Nat) (hr:RightK k) (hc:c<M64) (hz:SzK k):Cn Tryz.prog 46 [kp k,.v (.int .u64 i),.v (.int .u64 r),.v (.int .u64 c)] (.v (.bool (hasK k i r c))):=by
 refine yZ rfl (enters_of Tryz.func46 (by kernel_rfl) rfl) fun D w vs hG K Y A=>?_
 obtain⟨a,G,S,e0,hl,N,M⟩:=kX (A 0 _ rfl) K
 have Z:vs=#[.slice a k.length G,.int .u64 (i:Nat),.int .u64 (r:Nat),.int .u64 (c:Nat)]:=by
  have q1:=(A 1 _ rfl).v_inv
  have q2:=(A 2 _ rfl).v_inv
  have q3:=(A 3 _ rfl).v_inv
  obtain⟨l⟩:=vs
  match l,Y with
  | [x,y,z,t],_=>
    simp at e0 q1 q2 q3
    rw [e0,q1,q2,q3]
 rw [Z]
 refine(zn5 a k.length G i r c (wl (fun j=>mem (k.getD j default).items i) 0 S) (fun p=>mem (zT (k.getD p.1 default).vec r) c) w (fun W C ab c3 c4=>?_) fun W p E hb=>?_).mono ?_
 ·have T:∀ b o x,D b o->w.cell? ⟨b,o,none⟩=some x->W.cell? ⟨b,o,none⟩=some x:=fun b o x A Q=>(World.cell?_of_block (a:=⟨b,o,none⟩) (C b (K b o A))).trans Q
  refine zew S _ a G _ 0 _ 0 w.heap.size i W ?_ (by rw [hl];exact c3) c4 (by omega) fun w' j F I O=>?_
  ·obtain⟨h1,h2,h3⟩:=N
   refine⟨h1,h2,fun U=>?_⟩
   obtain⟨b,J,e1,e2,e3⟩:=h3 U
   exact⟨b,J,e1,e2,fun j F=>⟨(World.cell?_of_block (a:=⟨b,J+j * 2,none⟩) (C b e2)).trans (e3 j F).1,(World.cell?_of_block (a:=⟨b,J+j * 2+1,none⟩) (C b e2)).trans (e3 j F).2⟩⟩
  ·have P:∀ b o x,D b o->w.cell? ⟨b,o,none⟩=some x->w'.cell? ⟨b,o,none⟩=some x:=fun b o x A Q=>(World.cell?_of_block (a:=⟨b,o,none⟩) (I b (K b o A))).trans (T b o x A Q)
   have B:j<k.length:=hl ▸ F
   have L:=List.getElem_mem B
   simp only [zfl B]
   refine(jP (ziQ k[j].items i (hr _ L).1 (hz.2 _ L).1) (hG.mono (fun _ _ h=>h) P) (fun b o h=>Nat.lt_of_lt_of_le (K b o h) O) rfl (fun t p E=>?_)).mono ?_
   ·match t,E with
    | 0,E=>cases E;exact(M j F).1.mono (fun _ _ h=>h) P
    | 1,E=>cases E;exact .v _
    | t+2,E=>simp at E
   ·rintro e W' ⟨v,rfl,H,A⟩
    rw [A.v_inv]
    exact⟨rfl,H⟩
 ·have T:∀ b o x,D b o->w.cell? ⟨b,o,none⟩=some x->W.cell? ⟨b,o,none⟩=some x:=fun b o x A Q=>(hb.cell (p:=⟨b,o,none⟩) (K b o A)).trans Q
  obtain⟨V,_,X,_⟩:=zez E
  have F:p.1<S.length:=by simpa using V
  have B:p.1<k.length:=hl ▸ F
  have L:=List.getElem_mem B
  have e:p.2=S[p.1]:=by rw [X];simp
  simp only [zfl B,e]
  refine(jP (zo6 k[p.1].vec r c (hr _ L).2 hc (hz.2 _ L).2.1 (hz.2 _ L).2.2) (hG.mono (fun _ _ h=>h) T) (fun b o h=>Nat.lt_of_lt_of_le (K b o h) hb.size) rfl (fun t p' u=>?_)).mono ?_
  ·match t,u with
   | 0,u=>cases u;exact(M p.1 F).2.mono (fun _ _ h=>h) T
   | 1,u=>cases u;exact .v _
   | 2,u=>cases u;exact .v _
   | t+3,u=>simp at u
  ·rintro e W' ⟨v,rfl,H,A⟩
   rw [A.v_inv]
   exact⟨rfl,H⟩
 ·rintro e w' ⟨rfl,hb⟩
  rw [zo7 hl i (fun f=>mem (zT f.vec r) c),jh]
  exact⟨_,rfl,hb,.v _⟩
theorem zgU {C:Nat->List Nat} {R:List Nat} (k:List Fg) (i:Nat) (hk:IK C R k) (ok:OkC C R) (a:RightK k) (hs:∀ f ∈ k,SmV f.vec) (hz:SzK k):Cn Tryz.prog 18 [kp k,.v (.int .u64 i)] (vp (qc k i)):=by
 refine zt Tryz.func18 2 ?_
 refine pw ?_
 refine .c (zfB k i) ?_
 exact .d (zfk k i hk ok a hs hz)
theorem zc8 (k:List Fg) (hb:BdK k):Cn Tryz.prog 13 [kp k] (.v (.bool (vx k))):=by
 have hl:=hb.2
 refine zt Tryz.func13 1 ?_
 refine pw ?_
 refine pLoop.go (fun j=>j<=k.length/\vx k=((k.drop j).all (fun f=>decide (f.items.length<=20) && JF f.vec) && decide (k.length<=12))) (fun j=>[(3,.v (.int .i64 (j:Nat)))]) (fun _=>[]) (fun j=>k.length - j) 0 [3] ?_ ?_ ?_
 ·exact⟨Nat.zero_le _,rfl⟩
 ·exact pd
 ·rintro j ⟨B,a⟩
  refine pw ?_
  refine .i ?_ ?_<;>intro h<;>(try simp only [nrm_l] at h)<;>first | refine pw ?_ | exact pd
  ·rw [List.drop_eq_getElem_cons h,List.all_cons] at a
   have u:=hb.1 _ (List.getElem_mem h)
   have A:=u.2.2.1
   refine pw ?_
   refine .i ?_ ?_<;>intro y<;>(try simp only [nrm_l] at y)<;>first | refine pw ?_ | exact pd
   ·rw [a,decide_eq_false (by omega)]
    rfl
   ·rw [decide_eq_true (by omega),Bool.true_and] at a
    refine .c (zj5 k[j].vec u.2.2.2) ?_
    refine .i ?_ ?_<;>intro w<;>(try simp only [nrm_l] at w)<;>first | refine pw ?_ | exact pd
    ·rw [a,w]
     rfl
    ·rw [w,Bool.true_and] at a
     exact⟨j+1,⟨h,a⟩,by omega,rfl⟩
  ·rw [a,List.drop_of_length_le (by omega)]
   simp
   omega
theorem znL (k:List Fg) (hb:BdK k) (B:HlK k):Cn Tryz.prog 36 [kp k] (.tup [.v (.int .i64 (ckK k).1),.v (.int .i64 (ckK k).2)]):=by
 have hl:=hb.2
 refine zt Tryz.func36 1 ?_
 refine pw ?_
 refine pLoop.go (fun j=>j<=k.length/\ckK k=hkK j (k.drop j)) (fun j=>[(4,.v (.int .i64 (j:Nat)))]) (fun _=>[]) (fun j=>k.length - j) 0 [4] ?_ ?_ ?_
 ·exact⟨Nat.zero_le _,rfl⟩
 ·exact pd
 ·rintro j ⟨C,u⟩
  refine pw ?_
  refine .i ?_ ?_<;>intro h<;>(try simp only [nrm_l] at h)<;>first | refine pw ?_ | exact pd
  ·rw [List.drop_eq_getElem_cons h,hkK] at u
   have a:=hb.1 _ (List.getElem_mem h)
   have y:=B _ (List.getElem_mem h)
   refine pw ?_
   refine .c (XO k[j].items a.2.2.1 a.1) ?_
   refine .i ?_ ?_<;>intro A<;>(try simp only [nrm_l] at A)<;>first | refine pw ?_ | exact pd
   ·rw [if_neg (by omega)] at u
    refine .c (Kb k[j].vec a.2.1 a.2.2.2 y) ?_
    refine .i ?_ ?_<;>intro w<;>(try simp only [nrm_l] at w)<;>first | refine pw ?_ | exact pd
    ·rw [if_pos (by omega)] at u
     rw [u]
    ·rw [if_neg (by omega)] at u
     exact⟨j+1,⟨h,u⟩,by omega,rfl⟩
   ·rw [if_pos (by omega)] at u
    refine .i ?_ ?_<;>intro w<;>(try simp only [nrm_l] at w)<;>first | refine pw ?_ | exact pd
    ·rw [u]
    ·exact absurd w (by omega)
  ·rw [u,List.drop_of_length_le (by omega)]
   rfl
theorem SzK.hl {k:List Fg} (hz:SzK k):HlK k:=fun f j e a=>Nat.le_trans ((hz.2 f j).2.2 e a) (by omega)
theorem VS (k:List Fg) (hb:BdK k) (hz:SzK k):Cn Tryz.prog 36 [kp k] (.tup [.v (.int .i64 (ckK k).1),.v (.int .i64 (ckK k).2)]):=znL k hb hz.hl
theorem zid (k:List Fg) (i r c:Nat) (E:RightK k) (C:c<M64) (hz:SzK k):Cn Tryz.prog 33 [kp k,.v (.int .u64 i),.v (.int .u64 r),.v (.int .u64 c)] (.v (.bool (hasK k i r c))):=by
 have hl:=hz.1
 refine zt Tryz.func33 4 ?_
 refine pw ?_
 refine pLoop.go (fun j=>j<=k.length/\hasK k i r c=hasK (k.drop j) i r c) (fun j=>[(9,.v (.int .i64 (j:Nat)))]) (fun _=>[]) (fun j=>k.length - j) 0 [9] ?_ ?_ ?_
 ·exact⟨Nat.zero_le _,rfl⟩
 ·exact pd
 ·rintro j ⟨F,A⟩
  refine pw ?_
  refine .i ?_ ?_<;>intro h<;>(try simp only [nrm_l] at h)<;>first | refine pw ?_ | exact pd
  ·rw [List.drop_eq_getElem_cons h] at A
   have a:hasK k i r c=((mem k[j].items i && mem (zT k[j].vec r) c) || hasK (k.drop (j+1)) i r c):=A
   have u:=hz.2 _ (List.getElem_mem h)
   have B:=E _ (List.getElem_mem h)
   refine pw ?_
   refine .c (kU k[j].items i u.1) ?_
   refine .i ?_ ?_<;>intro w<;>(try simp only [nrm_l] at w)<;>first | refine pw ?_ | exact pd
   ·refine .c (zl8 k[j].vec r c B.2 C u.2.1 u.2.2) ?_
    rw [w,Bool.true_and] at a
    refine .i ?_ ?_<;>intro y<;>(try simp only [nrm_l] at y)<;>first | refine pw ?_ | exact pd
    ·rw [a,y]
     rfl
    ·rw [y,Bool.false_or] at a
     exact⟨j+1,⟨h,a⟩,by omega,rfl⟩
   ·rw [w,Bool.false_and,Bool.false_or] at a
    exact⟨j+1,⟨h,a⟩,by omega,rfl⟩
  ·rw [A,List.drop_of_length_le (by omega)]
   rfl
theorem VR {C:Nat->List Nat} {R:List Nat} (k:List Fg) (i:Nat) (hk:IK C R k) (ok:OkC C R) (B:RightK k) (hs:∀ f ∈ k,SmV f.vec) (hz:SzK k):Cn Tryz.prog 88 [kp k,.v (.int .u64 i)] (vp (qc k i)):=by
 have hl:=hz.1
 refine zt Tryz.func88 2 ?_
 refine pw ?_
 refine pLoop.go (fun j=>j<=k.length) (fun j=>[(5,vp (qc (k.take j) i)),(6,.v (.int .i64 (j:Nat)))]) (fun _=>[]) (fun j=>k.length - j) 0 [5,6] ?_ ?_ ?_
 ·exact Nat.zero_le _
 ·simp only [List.take_zero,zbT]
  exact pd
 ·rintro j A
  refine pw ?_
  refine .i ?_ ?_<;>intro h<;>(try simp only [nrm_l] at h)<;>first | refine pw ?_ | exact pd
  ·have a:=Ku i h
   have y:=hz.2 _ (List.getElem_mem h)
   have w:=((hk.take j).at i).1.smv ok
   refine pw ?_
   refine .c (kU k[j].items i y.1) ?_
   refine .i ?_ ?_<;>intro u<;>(try simp only [nrm_l] at u)<;>first | refine pw ?_ | exact pd
   ·rw [if_pos u] at a
    refine .c (zcC (qc (k.take j) i) k[j].vec 0 (by omega) w (hs _ (List.getElem_mem h))) ?_
    rw [znf]
    exact⟨j+1,h,by omega,by rw [a],rfl⟩
   ·rw [if_neg (by rw [u];simp)] at a
    exact⟨j+1,h,by omega,by rw [a],rfl⟩
  ·rw [show k.take j=k from List.take_of_length_le (by omega)]
theorem Kd (k:List Fg) (i:Nat) (hz:SzK k) (B:k.length<=1073741824):Cn Tryz.prog 131 [kp k,.v (.int .u64 i)] (is (zU k i)):=by
 have hl:=hz.1
 refine zt Tryz.func131 2 ?_
 refine pw ?_
 refine pLoop.go (fun j=>j<=k.length) (fun j=>[(5,.sl ((zU (k.take j) i).map fun x=>[.v (.int .i64 (x:Nat))]) (.r 23 1)),(6,.v (.int .i64 (j:Nat)))]) (fun _=>[]) (fun j=>k.length - j) 0 [5,6,23] ?_ ?_ ?_
 ·exact Nat.zero_le _
 ·simp only [List.take_zero,zU,qd,List.map_nil]
  exact pd
 ·rintro j C
  have w:=zbk (k.take j) i
  have A:(zU (k.take j) i).length<=j:=by simp at w;omega
  refine pw ?_
  refine .i ?_ ?_<;>intro h<;>(try simp only [nrm_l] at h)<;>first | refine pw ?_ | exact pd
  ·have a:=JX i h
   have y:=hz.2 _ (List.getElem_mem h)
   refine pw ?_
   refine .c (kU k[j].items i y.1) ?_
   refine .i ?_ ?_<;>intro u<;>(try simp only [nrm_l] at u)<;>first | refine pw ?_ | exact pd
   ·rw [if_pos u] at a
    refine⟨j+1,h,by omega,?_,rfl⟩
    rw [a]
    simp
   ·rw [if_neg (by rw [u];simp),List.append_nil] at a
    exact⟨j+1,h,by omega,by rw [a],rfl⟩
  ·rw [show k.take j=k from List.take_of_length_le (by omega)]
theorem Vh (k:List Fg) (hb:BdK k) (hz:SzK k):Cn Tryz.prog 54 [kp k] (jS (ckK k).1 (ckK k).2):=by
 have hl:=hz.1
 refine zt Tryz.func54 1 ?_
 refine pw ?_
 refine pLoop.go (fun j=>j<=k.length/\ckK k=hkK j (k.drop j)) (fun j=>[(9,.v (.int .i64 (j:Nat)))]) (fun _=>[]) (fun j=>k.length - j) 0 [9] ?_ ?_ ?_
 ·exact⟨Nat.zero_le _,rfl⟩
 ·exact pd
 ·rintro j ⟨E,w⟩
  refine pw ?_
  refine .i ?_ ?_<;>intro h<;>(try simp only [nrm_l] at h)<;>first | refine pw ?_ | exact pd
  ·rw [List.drop_eq_getElem_cons h,hkK] at w
   have A:=hb.1 _ (List.getElem_mem h)
   have y:=hz.2 _ (List.getElem_mem h)
   have a:=Ju (Zl k[j].items).1 (Zl k[j].items).2
   have u:=Ju (jx k[j].vec).1 (jx k[j].vec).2
   refine pw ?_
   refine .rd (VO k[j].items A.1 y.1 (.inr (KL 2))) rfl ?_
   by_cases B:(Zl k[j].items).1=0
   ·rw [yk B]
    rw [if_neg (by omega)] at w
    refine pw ?_
    refine .rd (zes k[j].vec A.2.1 y.2.1 y.2.2) rfl ?_
    by_cases C:(jx k[j].vec).1=0
    ·rw [yk C]
     rw [if_neg (by omega)] at w
     refine pw ?_
     exact⟨j+1,⟨h,w⟩,by omega,rfl⟩
    ·rw [if_pos C] at w
     rw [w]
     rw [vu C] at u ⊢
     refine pw ?_
     (first | refine .c (u) ?_ | refine .o (u) ?_)
     refine .c (jT (jx k[j].vec).1 j) ?_
     exact ym _ _
   ·rw [if_pos B] at w
    rw [w]
    rw [vu B] at a ⊢
    refine pw ?_
    (first | refine .c (a) ?_ | refine .o (a) ?_)
    refine .c (jT (Zl k[j].items).1 j) ?_
    exact ym _ _
  ·rw [w,List.drop_of_length_le (by omega)]
   exact .eq _ rfl
theorem zfq (a b:List Fg) (hz:SzK a):Cn Tryz.prog 16 [kp a,kp b] (.v (.bool (decide (a=b)))):=by
 have hl:=hz.1
 refine zt Tryz.func16 2 ?_
 refine pw ?_
 refine .i ?_ ?_<;>intro w<;>(try simp only [nrm_l] at w)<;>first | refine pw ?_ | exact pd
 ·symm
  rw [decide_eq_false_iff_not]
  rintro rfl
  exact w rfl
 ·have B:a.length=b.length:=by simpa using w
  clear w
  refine pLoop.go (fun k=>k<=a.length/\(a=b ↔ a.drop k=b.drop k)) (fun k=>[(5,.v (.int .i64 (k:Nat)))]) (fun _=>[]) (fun k=>a.length - k) 0 [5] ?_ ?_ ?_
  ·exact⟨Nat.zero_le _,Iff.rfl⟩
  ·exact pd
  ·rintro k ⟨hk,u⟩
   refine pw ?_
   refine .i ?_ ?_<;>intro h<;>(try simp only [nrm_l] at h)<;>first | refine pw ?_ | exact pd
   ·have A:k<b.length:=by omega
    have j:=hz.2 _ (List.getElem_mem h)
    rw [List.drop_eq_getElem_cons h,List.drop_eq_getElem_cons A,List.cons.injEq] at u
    refine pw ?_
    refine .c (zgI a[k].items b[k].items j.1) ?_
    refine .i ?_ ?_<;>intro e<;>(try simp only [nrm_l] at e)<;>first | refine pw ?_ | exact pd
    ·symm
     rw [decide_eq_false_iff_not]
     intro y
     exact e (congrArg Fg.items (u.1 y).1)
    ·refine .c (zji a[k].vec b[k].vec j.2.1 j.2.2) ?_
     refine .i ?_ ?_<;>intro e2<;>(try simp only [nrm_l] at e2)<;>first | refine pw ?_ | exact pd
     ·symm
      rw [decide_eq_false_iff_not]
      intro y
      exact e2 (congrArg Fg.vec (u.1 y).1)
     ·refine⟨k+1,⟨h,?_⟩,by omega,rfl⟩
      rw [u]
      exact⟨fun h=>h.2,fun h=>⟨Fg.ext' e e2,h⟩⟩
   ·rw [eq_comm,decide_eq_true_eq,u,List.drop_of_length_le (by omega),List.drop_of_length_le (by omega)]
theorem zjX (a b:List Nat) (B:a.length<=1152921504606846976):Cn Tryz.prog 56 [is a,is b] (.v (.bool (decide (a=b)))):=by
 refine zt Tryz.func56 2 ?_
 refine pw ?_
 refine .i ?_ ?_<;>intro j<;>(try simp only [nrm_l] at j)<;>first | refine pw ?_ | exact pd
 ·symm
  rw [decide_eq_false_iff_not]
  rintro rfl
  exact j rfl
 ·have y:a.length=b.length:=by simpa using j
  clear j
  refine pLoop.go (fun k=>k<=a.length/\(a=b ↔ a.drop k=b.drop k)) (fun k=>[(13,.v (.int .i64 (k:Nat)))]) (fun _=>[]) (fun k=>a.length - k) 0 [13] ?_ ?_ ?_
  ·exact⟨Nat.zero_le _,Iff.rfl⟩
  ·exact pd
  ·rintro k ⟨hk,u⟩
   refine pw ?_
   refine .i ?_ ?_<;>intro h<;>(try simp only [nrm_l] at h)<;>first | refine pw ?_ | exact pd
   ·have w:k<b.length:=by omega
    rw [List.drop_eq_getElem_cons h,List.drop_eq_getElem_cons w,List.cons.injEq] at u
    refine pw ?_
    refine .i ?_ ?_<;>intro e<;>(try simp only [nrm_l] at e)<;>first | refine pw ?_ | exact pd
    ·symm
     rw [decide_eq_false_iff_not]
     intro A
     exact absurd (u.1 A).1 (by omega)
    ·refine⟨k+1,⟨h,?_⟩,by omega,rfl⟩
     rw [u]
     have e:a[k]=b[k]:=by omega
     exact⟨fun h=>h.2,fun h=>⟨e,h⟩⟩
   ·rw [eq_comm,decide_eq_true_eq,u,List.drop_of_length_le (by omega),List.drop_of_length_le (by omega)]
theorem zps (r:Nat):kn ⟨r,0,[]⟩=[⟨0,0⟩]:=kn0 _ _ (by rw [zw];omega)
theorem zhj (f:Fg) (v:List En) (a:∀ e ∈ f.vec,ZL e) (j:∀ e ∈ v,ZL e) (u:(zv f.vec).length<=1073741824) (w:(zv v).length<=1073741824):Cn Tryz.prog 164 [fp f,vp v] (.v (.int .i64 (zZ (zv f.vec) (zv v)))):=by
 refine zt Tryz.func164 2 ?_
 refine pw ?_
 exact .d (Ks f.vec v a j u w)
theorem zhm (k:List Fg) (v:List En) (i:Nat) (hi:i<=k.length) (G:∀ j,(h:j<k.length)->j<i->ZH k[j].vec v) (H:∀ j,(h:j<k.length)->i<=j->¬ ZH k[j].vec v) (hl:k.length<=1152921504606846976)
 (u:∀ f ∈ k,Cn Tryz.prog 164 [fp f,vp v] (.v (.int .i64 (zZ (zv f.vec) (zv v))))) :
 Cn Tryz.prog 163 [kp k,vp v,.fn (.func 164) [] []] (.tup [.v (.int .i64 i),.v (.bool (if h:i<k.length then decide (zZ (zv k[i].vec) (zv v)=0) else false))]):=by
 refine zt Tryz.func163 3 ?_
 refine pw ?_
 refine pLoop.go (fun p:Nat × Nat=>p.1<=i/\i<=p.2/\p.2<=k.length) (fun p=>[(9,.v (.int .i64 (p.1:Nat))),(10,.v (.int .i64 (p.2:Nat)))]) (fun _=>[]) (fun p=>p.2 - p.1) (0,k.length) [9,10] ?_ ?_ ?_
 ·exact⟨Nat.zero_le _,hi,Nat.le_refl _⟩
 ·exact pd
 ·rintro⟨p,q⟩ ⟨A,B,C⟩
  simp only at A B C
  refine pw ?_
  refine .i ?_ ?_<;>intro h<;>(try simp only [nrm_l] at h)<;>first | refine pw ?_ | exact pd
  ·have w:(p+q) / 2<k.length:=by omega
   have E:=G _ w
   have F:=H _ w
   refine pw ?_
   (first | refine .c (u k[(p+q) / 2] (List.getElem_mem w)) ?_ | refine .o (u k[(p+q) / 2] (List.getElem_mem w)) ?_)
   refine .i ?_ ?_<;>intro a<;>(try simp only [nrm_l] at a)<;>first | refine pw ?_ | exact pd
   ·refine⟨((p+q) / 2+1,q),⟨?_,B,C⟩,by simp only;omega,rfl,rfl⟩
    simp only
    exact Nat.lt_of_not_le fun y=>F y a
   ·refine⟨(p,(p+q) / 2),⟨A,?_,by simp only;omega⟩,by simp only;omega,rfl,rfl⟩
    simp only
    refine Nat.le_of_not_lt fun y=>?_
    have:=E y
    unfold ZH at this
    omega
  ·obtain rfl:p=i:=by omega
   obtain rfl:q=p:=by omega
   refine .i ?_ ?_<;>intro a<;>(try simp only [nrm_l] at a)<;>first | refine pw ?_ | exact pd
   ·(first | refine .c (u k[q] (List.getElem_mem a)) ?_ | refine .o (u k[q] (List.getElem_mem a)) ?_)
    rw [dif_pos a]
    try simp
   ·rw [dif_neg (by omega)]
theorem Qo:∀ {k:List Fg} (v:List En),k.Pairwise (fun f g=>ZH f.vec g.vec)->∃ i,i<=k.length/\(∀ j,(h:j<k.length)->j<i->ZH k[j].vec v)/\(∀ j,(h:j<k.length)->i<=j->¬ ZH k[j].vec v)
 | [],v,_=>⟨0,Nat.le_refl _,fun j h=>by simp at h,fun j h=>by simp at h⟩
 | f::k,v,hp=>by
   have w:=List.pairwise_cons.1 hp
   by_cases h:ZH f.vec v
   ·obtain⟨i,C,y,A⟩:=Qo v w.2
    refine⟨i+1,by simp;omega,fun j u a=>?_,fun j u B=>?_⟩
    ·cases j with
     | zero=>exact h
     | succ j=>exact y j (by simpa using u) (by omega)
    ·cases j with
     | zero=>omega
     | succ j=>exact A j (by simpa using u) (by omega)
   ·refine⟨0,Nat.zero_le _,fun j _ h=>absurd h (Nat.not_lt_zero _),fun j u _ a=>?_⟩
    cases j with
    | zero=>exact h a
    | succ j=>exact h (k8 (w.1 _ (List.getElem_mem (by simpa using u))) a)
theorem Y8:∀ {k:List Fg} {f:Fg} {i:Nat},i<=k.length->(∀ j,(h:j<k.length)->j<i->ZH k[j].vec f.vec)->(∀ j,(h:j<k.length)->i<=j->¬ ZH k[j].vec f.vec) ->
 qN k f=if h:i<k.length then (if zZ (zv k[i].vec) (zv f.vec)=0 then k.take i++⟨qy zn k[i].items f.items,f.vec⟩::k.drop (i+1) else k.take i++f::k.drop i) else k++[f]
 | [],f,i,h0,h1,h2=>by simp [qN]
 | g::k,f,i,h0,h1,h2=>by
   cases i with
   | zero=>
     have A:=h2 0 (by simp) (Nat.le_refl _)
     have u:¬ zZ (zv g.vec) (zv f.vec)<0:=A
     rw [qN,if_neg u,dif_pos (by simp)]
     simp only [List.getElem_cons_zero,List.take_zero,List.nil_append,List.drop_zero,List.drop_succ_cons]
   | succ i=>
     have B:zZ (zv g.vec) (zv f.vec)<0:=h1 0 (by simp) (by omega)
     rw [qN,if_pos B,Y8 (i:=i) (by simpa using h0) (fun j a y=>h1 (j+1) (by simpa using a) (by omega)) (fun j a w=>h2 (j+1) (by simpa using a) (by omega))]
     simp only [List.length_cons,List.getElem_cons_succ,List.take_succ_cons,List.drop_succ_cons,List.cons_append,Nat.add_lt_add_iff_right]
     split
     ·split<;>rfl
     ·rfl
end Go.Proofs.YtonhfknjcbakiaaGreatDoor
namespace Go.Proofs.YtonhfknjcbakiaaGreatDoor
open Go.RowKit
attribute [-go_sem] nat_succ
structure AddOk (o:List Fg) (f:Fg):Prop where
 gi:GrpI o
 fo:OkG f
 l:o.length<=1048576
 fi:f.items.length<=100000000
 oi:∀ g ∈ o,g.items.length<=100000000
 bd:∀ e ∈ f.vec,ZL e
 bo:∀ g ∈ o,∀ e ∈ g.vec,ZL e
 nf:(zv f.vec).length<=1073741824
 no:∀ g ∈ o,(zv g.vec).length<=1073741824
theorem xL {D:Nat->Nat->Prop} {w:World} {v:Value} {l:List En} (h:Dat D w v (vp l)):∃ j a,v=.slice j l.length a:=by
 have u:Dat D w v (.sl (l.map ec) .sh):=h
 obtain⟨j,a,A,b,y,f,e1,_⟩:=(Rel.dat (ρ:=fun _=>0) (nb:=0) u).inv_sl
 rw [List.length_map] at e1
 exact⟨j,a,e1⟩
def zc1 (o:List Fg) (f:Fg) (i:Nat):Bool:=if h:i<o.length then decide (zZ (zv o[i].vec) (zv f.vec)=0) else false
theorem zjH {C:Nat->Nat->Prop} {rb base:Nat} {w:World} {v F:Value} {o:List Fg} {f:Fg} (i:Nat) (r:Bool) (N:zc1 o f i=r) (ho:AddOk o f) (y:OutG C rb base w v o) (H:Dat (DL C rb w) w F (vp f.vec)) (hb:rb<base) (K:∀ b o,C b o->b<rb) (B:rb<w.heap.size) (L:GL C w)
 (hi:i<=o.length) (I:∀ j,(h:j<o.length)->j<i->ZH o[j].vec f.vec) (J:∀ j,(h:j<o.length)->i<=j->¬ ZH o[j].vec f.vec) :
 Calls Tryz.prog 163 #[v,F,.func (.func 164) #[] #[]] w fun e G=>e=.returned (.tuple #[.int .i64 (i:Nat),.bool r])/\Below w.heap.size w G:=by
 subst N
 refine(jP (D:=DL C rb w) (zhm o f.vec i hi I J (by have:=ho.l;omega) fun g E=>zhj g f.vec (ho.bo g E) ho.bd (ho.no g E) ho.nf) (L.mono (fun _ _ h=>.inl h) fun _ _ _ _ h=>h) (fun b o h=>h.elim (fun h=>Nat.lt_trans (K b o h) B) And.right) rfl (fun j p a=>?_)).mono ?_
 ·match j,a with
  | 0,a=>cases a;exact y.dat hb
  | 1,a=>cases a;exact H
  | 2,a=>cases a;exact .fn _ #[] #[] [] [] rfl rfl (fun _ _ h=>by simp at h) (fun _ _ h=>by simp at h)
  | j+3,a=>simp at a
 ·rintro e G ⟨u,rfl,A,M⟩
  rw [XY M]
  exact⟨rfl,A⟩
theorem zeo {C:Nat->Nat->Prop} {rb:Nat} {w:World} {v a b:Value} {l m:List Iv} (hl:Nrm l) (K:Nrm m) (hs:l.length+m.length<=1073741824) (G:Dat (DX C rb w v) w a (rg l)) (H:Dat (DX C rb w v) w b (rg m)) (F:∀ k,v.ownBlock=some k->rb<k/\k<w.heap.size) (E:∀ b o,C b o->b<rb) (B:rb<w.heap.size) (I:GL C w) :
 Calls Tryz.prog 69 #[a,b] w fun e A=>∃ u,e=.returned u/\Below w.heap.size w A/\Dat (DX C rb A v) A u (rg (qy zn l m)):=by
 refine(jP (D:=DX C rb w v) (zaz l m hl K hs) (I.mono (fun b o h=>⟨.inl h,fun e=>by have:=(F b e).1;have:=E b o h;omega⟩) fun _ _ _ _ h=>h) (fun b o h=>h.1.elim (fun h=>Nat.lt_trans (E b o h) B) And.right) rfl (fun j p y=>?_)).mono ?_
 ·match j,y with
  | 0,y=>cases y;exact G
  | 1,y=>cases y;exact H
  | j+2,y=>simp at y
 ·rintro e A ⟨u,rfl,hb,J⟩
  exact⟨u,rfl,hb,J.mono (fun b o h=>by
   rcases h with h | h
   ·exact⟨h.1.imp id fun h=>⟨h.1,Nat.lt_of_lt_of_le h.2 hb.size⟩,h.2⟩
   ·exact⟨.inr ⟨by omega,h.2⟩,fun e=>by have:=(F b e).2;omega⟩) fun _ _ _ _ h=>h⟩
theorem zhT {o:List Fg} {f:Fg} {i:Nat} (h:zc1 o f i=true):∃ hi:i<o.length,zZ (zv o[i].vec) (zv f.vec)=0:=by
 unfold zc1 at h
 split at h
 ·rename_i hi
  exact⟨hi,by simpa using h⟩
 ·cases h
theorem Jh {C:Nat->Nat->Prop} {base rb:Nat} {w:World} {v va vv:Value} {o:List Fg} {f:Fg} (T:AddOk o f) (ao:OutG C (rb+1) base w v o) (aL:Boxed w rb 142 v) (bF:rb+1<base) (bz:base<=w.heap.size) (hC:∀ b o,C b o->b<rb) (hG:GL C w)
 (da:Dat (DX C (rb+1) w v) w va (rg f.items)) (dv:Dat (DX C (rb+1) w v) w vv (vp f.vec)) :
 Calls Tryz.prog 117 #[.pointer (some ⟨rb,0,none⟩),.agg #[va,vv]] w fun e w'=>(∃ u,e=.returned u)/\∃ v',Boxed w' rb 142 v'/\OutG C (rb+1) base w' v' (qN o f)/\Keep (fun k=>k=rb\/base<=k) w w':=by
 obtain⟨i,hi,q1,q2⟩:=Qo f.vec T.gi.srt
 have M:=Y8 hi q1 q2
 have bG:=aL.lt
 obtain⟨O,ar⟩:∃ O,O=w.alloc (.cells #[va,vv] 34):=⟨_,rfl⟩
 have bN:O.heap.size=w.heap.size+1:=by rw [ar];simp
 have ac:∀ j,j<w.heap.size->O.heap[j]? = w.heap[j]?:=fun j hj=>by rw [ar];exact Below.heap_alloc _ _ _ hj
 have az:O.heap[w.heap.size]? = some (.cells #[va,vv] 34 (0,0)):=by rw [ar];exact World.alloc_heap_new w _
 have ae:=ao.keep (w':=O) (by omega) ac
 have aX:Dat (DX C (rb+1) O v) O va (rg f.items):=DX.keep da (by omega) fun k hk _=>ac k hk
 have aH:Dat (DX C (rb+1) O v) O vv (vp f.vec):=DX.keep dv (by omega) fun k hk _=>ac k hk
 have ak:Boxed O rb 142 v:=(ac rb bG).trans aL
 have aJ:GL C O:=hG.mono (fun _ _ h=>h) fun b o x A hx=>(World.cell?_of_block (a:=⟨b,o,none⟩) (ac b (by have:=hC b o A;omega))).trans hx
 obtain⟨ad,I,rfl,bM,bA⟩:=ao.shape
 unfold maxLen at bA
 obtain⟨aa,ca,rfl⟩:=zK da
 obtain⟨av,cv,rfl⟩:=xL dv
 obtain⟨r,P⟩:∃ r,zc1 o f i=r:=⟨_,rfl⟩
 have aY:∀ W,Below O.heap.size O W->Calls Tryz.prog 163 #[.slice ad o.length I,.slice av f.vec.length cv,.func (.func 164) #[] #[]] W fun e w'=>e=.returned (.tuple #[.int .i64 (i:Nat),.bool r])/\Below W.heap.size W w':=fun W V=>
  zjH i r P T (ae.keep V.size fun k hk=>V.block k hk) ((DX.keep aH V.size fun k hk _=>V.block k hk).mono (fun _ _ h=>h.1) fun _ _ _ _ h=>h) bF (fun b o h=>Nat.lt_succ_of_lt (hC b o h)) (by have:=V.size;omega) (aJ.mono (fun _ _ h=>h) fun b o x A hx=>(World.cell?_of_block (a:=⟨b,o,none⟩) (V.block b (by have:=hC b o A;omega))).trans hx) hi q1 q2
 have bf:=Lib.hid aY
 have c0:=ak.cell
 have e0:=(zW az 0 _ rfl).1
 have e1:=(zW az 1 _ rfl).1
 have aT:=Lib.hid ar
 have aE:=Lib.hid ae
 have aS:=Lib.hid aX
 have bh:=Lib.hid aH
 have aU:=Lib.hid ak
 have bi:=Lib.hid aJ
 have aC:=Lib.hid M
 have bp:=Lib.hid az
 have aB:=Lib.hid P
 have bK:=Lib.hid ac
 clear M ac az ae aX aH ak aJ P da dv ao aL hG q1 q2 aY
 have bJ:True:=trivial
 have aZ:Below O.heap.size O O.drew:=(Below.refl _ _).drew
 have aR:Tryz.prog.follows .mixedOrders=true:=by kernel_rfl
 go_enter Tryz.func117,Tryz.ntmps117
 go_wp2_with fail
 rw [<-ar]
 refine Kg (Sw:=qe) 12 51 (fun N=>Below O.heap.size O N/\N.cell? ⟨rb,0,none⟩=some (.slice ad o.length I)/\N.cell? ⟨w.heap.size,1,none⟩=some (.slice av f.vec.length cv)) (by kernel_rfl) (by kernel_rfl) rfl ⟨aZ,c0,e1⟩ ?_
 simp only [List.take_succ_cons,List.take_zero]
 refine Jz ?_
 refine V7 (fun u _=>u=.tuple #[.int .i64 (i:Nat),.bool r]) (yj _) rfl ?_ ?_
 ·intro a2 y A hk P K hK
  have HK:=Lib.hid hK
  clear hK
  simp [Rds,zA,lk,Op.operands,Call.operands,RdEq] at P
  go_simp
  refine(bf.out _ A.1).mono ?_
  rintro e w3 ⟨rfl,hb⟩
  have J:Keep qe y w3:=Keep.of_below' hb (Nat.le_refl _)
  exact HK.out _ _ J ⟨A.1.trans (hb.mono A.1.size),J.cell_some A.2.1 id,J.cell_some A.2.2 id⟩ rfl
 dsimp only [List.nil_append,List.cons_append]
 refine Jz ?_
 intro y H S
 simp only [finG,forall_eq,List.nil_append,List.cons_append,List.drop_succ_cons,List.drop_zero,List.drop_nil]
 simp only [Act.put,List.setIfInBounds_toArray,List.set_cons_succ,List.set_cons_zero]
 have B:=Lib.hid H.1
 have c2:=H.2.1
 have f2:=(H.1.block _ (by omega)).trans (show O.heap[w.heap.size]? = _ from bp.out)
 have g0:=(zW f2 0 _ rfl).1
 have g1:=(zW f2 1 _ rfl).1
 clear H S aZ
 cases r with
 | true=>
   obtain⟨an,hz⟩:=zhT aB.out
   have U:=aE.out.keep (w':=y) B.out.size fun k hk=>B.out.block k hk
   have bm:=Lib.hid U
   obtain⟨xs,Y,ay⟩:=id U
   obtain⟨a,b,ea,eb,aI,bw⟩:=ay i an
   obtain⟨g,aV,bL,ev,bD,bE,bc,_,_,_,_⟩:=Y.cases.resolve_left (fun h=>by omega)
   obtain⟨rfl,_,rfl⟩:ad=some ⟨g,0,none⟩/\o.length=o.length/\I=aV:=by simpa using ev
   have aW:y.cell? ⟨g,i * 2,none⟩=some a:=by
    have:=World.ownsRow.cells Y.1 (g:=g) rfl (i * 2) a ea
    rw [zh,Nat.zero_add] at this
    exact this
   have aK:∀ k,(Value.slice (some ⟨g,0,none⟩) o.length I).ownBlock=some k->rb+1<k/\k<y.heap.size:=fun k hk=>by have:=U.owns k hk;omega
   obtain⟨ai,ci,rfl⟩:=zK aI
   have be:∀ W,Below y.heap.size y W->Calls Tryz.prog 69 #[.slice ai o[i].items.length ci,.slice aa f.items.length ca] W fun e w'=>∃ u,e=.returned u/\Below W.heap.size W w'/\Dat (DX C (rb+1) w' (.slice (some ⟨g,0,none⟩) o.length I)) w' u (rg (qy zn o[i].items f.items)):=fun W V=>
    zeo (T.gi.ok _ (List.getElem_mem an)).2.2.1 T.fo.2.2.1 (by have:=T.oi _ (List.getElem_mem an);have:=T.fi;omega) (DX.keep aI V.size fun k hk _=>V.block k hk) (DX.keep aS.out (Nat.le_trans B.out.size V.size) fun k hk _=>(V.block k (Nat.lt_of_lt_of_le hk B.out.size)).trans (B.out.block k hk)) (fun k hk=>⟨(aK k hk).1,Nat.lt_of_lt_of_le (aK k hk).2 V.size⟩) (fun b o h=>Nat.lt_succ_of_lt (hC b o h)) (by have:=B.out.size;have:=V.size;omega) (bi.out.mono (fun _ _ h=>h) fun b o x A hx=>(World.cell?_of_block (a:=⟨b,o,none⟩) ((V.block b (by have:=hC b o A;have:=B.out.size;omega)).trans (B.out.block b (by have:=hC b o A;omega)))).trans hx)
   have bn:=Lib.hid be
   have ax:Below y.heap.size y y.drew:=(Below.refl _ _).drew
   have bj:=Lib.hid bc
   have ba:0<I:=by omega
   have aq:=B.out.size
   clear be U Y ay ea eb aI bw bc aK
   obtain⟨Q,aQ⟩:∃ Q,Q=y:=⟨_,rfl⟩
   subst aQ
   go_wp2_with fail
   refine Kg (Sw:=qe) 16 51 (fun N=>Below Q.heap.size Q N/\N.cell? ⟨rb,0,none⟩=some (.slice (some ⟨g,0,none⟩) o.length I)/\N.cell? ⟨g,i * 2,none⟩=some (.slice ai o[i].items.length ci)/\N.cell? ⟨w.heap.size,0,none⟩=some (.slice aa f.items.length ca)) (by kernel_rfl) (by kernel_rfl) rfl ⟨ax,c2,aW,g0⟩ ?_
   simp only [List.take_succ_cons,List.take_zero]
   refine Jz ?_
   refine V7 (fun u N=>Dat (DX C (rb+1) N (.slice (some ⟨g,0,none⟩) o.length I)) N u (rg (qy zn o[i].items f.items))) (fun u wa Q h hk=>DX.keep h hk.size fun k S _=>hk.block k S id) rfl ?_ ?_
   ·intro a2 y A hk P K hK
    have HK:=Lib.hid hK
    clear hK
    simp [Rds,zA,lk,Op.operands,Call.operands,RdEq] at P
    go_simp
    refine(bn.out _ A.1).mono ?_
    rintro e w3 ⟨u,rfl,hb,hd⟩
    have J:Keep qe _ w3:=Keep.of_below' hb (Nat.le_refl _)
    exact HK.out _ _ J ⟨A.1.trans (hb.mono A.1.size),J.cell_some A.2.1 id,J.cell_some A.2.2.1 id,J.cell_some A.2.2.2 id⟩ hd
   dsimp only [List.nil_append,List.cons_append]
   refine Jz ?_
   intro y H S
   simp only [finG,forall_eq,List.nil_append,List.cons_append,List.drop_succ_cons,List.drop_zero,List.drop_nil]
   simp only [Act.put,List.setIfInBounds_toArray,List.set_cons_succ,List.set_cons_zero]
   intro u hu
   obtain⟨F,G,rfl⟩:=zK hu
   have HU:=Lib.hid hu
   have aw:=Lib.hid H.1
   have c3:=H.2.2.1
   have f3:y.frozen? ⟨g,i * 2,none⟩=false:=by
    have:=(H.1.block g bE).trans bj.out
    simp [World.frozen?,this]
   clear hu H S ax c2 aW g0 g1 f2
   go_wp2
   (try simp only [Exit.inBlock,Exit.then]);refine bodyPost_ret (results_none rfl _ _ _) rfl ?_
   have ah:=(bm.out.keep (w':=y) aw.out.size fun k hk=>aw.out.block k hk).set an HU.out ba
   have M:qN o f=o.take i++⟨qy zn o[i].items f.items,o[i].vec⟩::o.drop (i+1):=by
    rw [aC.out,dif_pos an,if_pos hz,<-YU hz]
   rw [M]
   refine⟨⟨_,rfl⟩,_,?_,ah,?_⟩
   ·refine(Below.heap_setCell _ _ _ _ (by show rb≠g;omega)).trans ((aw.out.block rb (by omega)).trans ((B.out.block rb (by omega)).trans aU.out))
   ·have aN:Keep (fun k=>k=rb\/base<=k) w O:=by rw [aT.out];exact(Keep.refl _ w).alloc _
    exact((aN.trans (Keep.of_below' B.out (Nat.le_refl _))).trans (Keep.of_below' aw.out (Nat.le_refl _))).setCell (fun _=>.inr bD) _
 | false=>
   have M:qN o f=o.take i++f::o.drop i:=by
    rw [aC.out]
    have hh:=aB.out
    unfold zc1 at hh
    split at hh
    ·rename_i h
     rw [dif_pos h,if_neg (by simpa using hh)]
    ·rename_i h
     rw [dif_neg h,List.take_of_length_le (by omega),List.drop_of_length_le (by omega)]
   have bl:=Lib.hid M
   have aq:=B.out.size
   have bb:∀ W,Below y.heap.size y W->Calls Tryz.prog 59 #[.slice aa f.items.length ca] W fun e w'=>∃ F G,e=.returned (.slice F f.items.length G)/\OwnR W.heap.size w' (.slice F f.items.length G) f.items/\Below W.heap.size W w':=fun W V=>by
    have bB:=DX.keep aS.out (Nat.le_trans aq V.size) fun k hk _=>(V.block k (Nat.lt_of_lt_of_le hk aq)).trans (B.out.block k hk)
    refine(zeX (je bB (fun b o h=>h.1.elim (fun h=>by have:=hC b o h;have:=V.size;omega) And.right) T.fo.2.2.1.lt) (by have:=T.fi;omega)).mono ?_
    rintro e w' ⟨v',rfl,h1,h2⟩
    obtain⟨F,G,rfl⟩:=zK (jp (D:=fun _ _=>True) h1.rd fun _ _ _ _=>trivial)
    exact⟨F,G,rfl,h1,h2⟩
   have bg:=Lib.hid bb
   clear bb M
   have ax:Below y.heap.size y y.drew:=(Below.refl _ _).drew
   obtain⟨Q,aQ⟩:∃ Q,Q=y:=⟨_,rfl⟩
   subst aQ
   go_wp2_with fail
   refine znC [1,2,3,4,5,6,7,8,9,10,11,12,0,13,14,15,16] 12 51 (fun N=>Below Q.heap.size Q N/\N.cell? ⟨rb,0,none⟩=some (.slice ad o.length I)/\N.cell? ⟨w.heap.size,0,none⟩=some (.slice aa f.items.length ca)/\N.cell? ⟨w.heap.size,1,none⟩=some (.slice av f.vec.length cv)) aR (by kernel_rfl) (by kernel_rfl) rfl ⟨ax,c2,g0,g1⟩ _ _ rfl rfl rfl rfl _ rfl ?_
   simp only [z8,List.map_cons,List.map_nil,List.getD_cons_zero,List.getD_cons_succ,List.take_succ_cons,List.take_zero,List.drop_succ_cons,List.drop_zero]
   repeat (refine Pl.wdetK ?_ rfl (fun a w A _ P=>?_) ?_;rotate_left;(simp [Pl.Rds,zA,Pl.lk,Op.operands,Call.operands,RdEq] at P;go_simp;with_reducible rfl);dsimp only [List.nil_append,List.cons_append])
   refine Pl.wgenK (fun u N=>∃ F G,u=.slice F f.items.length G/\OwnR Q.heap.size N u f.items) (fun u _ _ h hk=>by obtain⟨F,G,e,h⟩:=h;exact⟨F,G,e,h.keep hk fun _ _ h=>h⟩) rfl ?_ ?_
   ·intro a2 y A hk P K hK
    have HK:=Lib.hid hK
    clear hK
    simp [Pl.Rds,zA,Pl.lk,Op.operands,Call.operands,RdEq] at P
    go_simp
    refine(bg.out _ A.1).mono ?_
    rintro e w3 ⟨F,G,rfl,ho,hb⟩
    have J:Keep qe _ w3:=Keep.of_below' hb (Nat.le_refl _)
    exact HK.out _ _ J ⟨A.1.trans (hb.mono A.1.size),J.cell_some A.2.1 id,J.cell_some A.2.2.1 id,J.cell_some A.2.2.2 id⟩ ⟨F,G,rfl,ho.mono A.1.size⟩
   dsimp only [List.nil_append,List.cons_append]
   repeat (refine Pl.wdetK ?_ rfl (fun a w A _ P=>?_) ?_;rotate_left;(simp [Pl.Rds,zA,Pl.lk,Op.operands,Call.operands,RdEq] at P;go_simp;with_reducible rfl);dsimp only [List.nil_append,List.cons_append])
   refine Pl.wgenK (fun u N=>∃ F G,u=.agg #[.slice F f.items.length G,.slice av f.vec.length cv]/\OwnR Q.heap.size N (.slice F f.items.length G) f.items) (fun u _ _ h hk=>by obtain⟨F,G,e,h⟩:=h;exact⟨F,G,e,h.keep hk fun _ _ h=>h⟩) rfl ?_ ?_
   ·intro a2 y A hk P K hK
    have HK:=Lib.hid hK
    clear hK
    simp [Pl.Rds,zA,Pl.lk,Op.operands,Call.operands,RdEq] at P
    obtain⟨⟨_,⟨e1,e2⟩,⟨F,G,rfl⟩,ho⟩,e3,e4⟩:=P
    go_simp
    exact HK.out _ _ (Keep.refl _ _) A ⟨F,G,rfl,ho⟩
   dsimp only [List.nil_append,List.cons_append]
   refine Pl.wgenK (fun u N=>∃ Z F G vt,u=.slice (some ⟨Z,0,none⟩) 1 1/\N.heap[Z]? = some (.cells #[.slice F f.items.length G,.slice av f.vec.length cv] vt (0,0))/\Q.heap.size<=Z/\OwnR Q.heap.size N (.slice F f.items.length G) f.items) (fun u _ _ h hk=>by obtain⟨Z,F,G,vt,e,h1,h2,h3⟩:=h;exact⟨Z,F,G,vt,e,hk.obj h1 id,h2,h3.keep hk fun _ _ h=>h⟩) rfl ?_ ?_
   ·intro a2 y A hk P K hK
    have HK:=Lib.hid hK
    clear hK
    simp [Pl.Rds,zA,Pl.lk,Op.operands,Call.operands,RdEq] at P
    obtain⟨_,⟨e1,e2⟩,F,G,rfl,ho⟩:=P
    go_simp
    refine HK.out _ _ ((Keep.refl _ _).alloc _) ⟨A.1.alloc A.1.size _,?_,?_,?_⟩ ⟨y.heap.size,F,G,_,rfl,World.alloc_heap_new y _,A.1.size,ho.keep ((Keep.refl qe _).alloc _) fun _ _ h=>h⟩
    ·exact((Keep.refl qe _).alloc _).cell_some A.2.1 id
    ·exact((Keep.refl qe _).alloc _).cell_some A.2.2.1 id
    ·exact((Keep.refl qe _).alloc _).cell_some A.2.2.2 id
   dsimp only [List.nil_append,List.cons_append]
   repeat (refine Pl.wdetK ?_ rfl (fun a w A _ P=>?_) ?_;rotate_left;(simp [Pl.Rds,zA,Pl.lk,Op.operands,Call.operands,RdEq] at P;go_simp;with_reducible rfl);dsimp only [List.nil_append,List.cons_append])
   have ah:∀(y:World) (Z:Nat) (F G) (vt:TypeId),Below Q.heap.size Q y->y.heap[Z]? = some (.cells #[.slice F f.items.length G,.slice av f.vec.length cv] vt (0,0))->Q.heap.size<=Z->OwnR Q.heap.size y (.slice F f.items.length G) f.items ->
    Calls Tryz.prog 166 #[.slice ad o.length I,.int .i64 (i:Nat),.slice (some ⟨Z,0,none⟩) 1 1] y fun e w3=>∃ g3 L,e=.returned (.slice (some ⟨g3,0,none⟩) (o.length+1) L)/\Boxed w3 rb 142 (.slice ad o.length I)/\OutG C (rb+1) base (w3.setCell ⟨rb,0,none⟩ (.slice (some ⟨g3,0,none⟩) (o.length+1) L)) (.slice (some ⟨g3,0,none⟩) (o.length+1) L) (qN o f)/\Keep (fun k=>k=rb\/base<=k) w w3:=by
    intro y Z F G vt ab ag aj af
    have aO:=(aE.out.keep (w':=Q) aq fun k hk=>B.out.block k hk).keep (w':=y) ab.size fun k hk=>ab.block k hk
    obtain⟨xs,Y,ay⟩:=id aO
    have aP:=(aE.out.keep (w':=Q) aq fun k hk=>B.out.block k hk).owns
    refine(Q1 base Z vt y _ o.length xs _ _ i rfl rfl hi Y ag (fun e=>by have:=(aP Z e).2;omega) (by have:=T.l;omega) (by have:=ab.size;omega)).mono ?_
    rintro e w3 ⟨v',rfl,X,aM,bH⟩
    have bO:=ab.size
    have hp:Dat (DX C (rb+1) y (.slice ad o.length I)) y (.slice F f.items.length G) (rg f.items):=jp af.rd fun b o h1 h2=>⟨.inr ⟨by omega,h2⟩,fun e=>by have:=(aP b e).2;omega⟩
    have hq:Dat (DX C (rb+1) y (.slice ad o.length I)) y (.slice av f.vec.length cv) (vp f.vec):=DX.keep bh.out (by omega) fun k hk _=>(ab.block k (by omega)).trans (B.out.block k hk)
    have bC:=OutG.ins hi Y.2.1 ay hp hq (fun b o h=>Nat.lt_succ_of_lt (hC b o h)) (by omega) X aM bH
    obtain⟨g3,L,bI,rfl,_⟩:=X.cases.resolve_left fun h=>by omega
    have E:Boxed w3 rb 142 (.slice ad o.length I):=Boxed.kept ((ab.block rb (by omega)).trans ((B.out.block rb (by omega)).trans aU.out)) aM fun e=>by have:=(aP rb e.symm);have:=(Y.1.lt rb e.symm).1;omega
    refine⟨g3,L,rfl,E,?_,?_⟩
    ·rw [bl.out]
     exact bC.box (by omega) (by omega) fun b o h=>by have:=hC b o h;omega
    ·have aN:Keep (fun k=>k=rb\/base<=k) w O:=by rw [aT.out];exact(Keep.refl _ w).alloc _
     exact(((aN.trans (Keep.of_below' B.out (Nat.le_refl _))).trans (Keep.of_below' ab (Nat.le_refl _)))).grown aM fun k hk _=>.inr (Y.1.lt k hk).1
   have aA:=Lib.hid ah
   clear ah
   refine⟨fun y H S=>?_,fun y H S=>?_⟩<;>(simp only [Pl.finG,forall_eq,List.nil_append,List.cons_append,List.take_succ_cons,List.take_zero,List.drop_succ_cons,List.drop_zero,List.drop_nil,jA,Option.map_none];simp only [Act.put,List.setIfInBounds_toArray,List.set_cons_succ,List.set_cons_zero])
   ·rintro _ ⟨bq,bt,rfl,_⟩ _ ⟨br,bu,rfl,_⟩ _ ⟨Z,F,G,vt,rfl,ag,aj,af⟩
    have HQ:=Lib.hid (aA.out y Z F G vt H.1 ag aj af)
    clear ag af H S
    go_wp2_with (first
     | (go_at_call 166;refine HQ.out.mono ?_;rintro e w3 ⟨g3,L,rfl,E,X,am⟩
        have aF:=Lib.hid X
        have aD:=Lib.hid am
        have aG:=Lib.hid E
        have c9:=E.cell
        have f9:=E.frozen
        clear X am E)
     | go_in)
    go_end0
    exact⟨⟨_,rfl⟩,_,aG.out.set _,aF.out,aD.out.setCell (fun _=>.inl rfl) _⟩
   ·rintro _ ⟨bq,bt,rfl,_⟩ _ ⟨br,bu,rfl,_⟩ _ ⟨Z,F,G,vt,rfl,ag,aj,af⟩
    have HQ:=Lib.hid (aA.out y Z F G vt H.1 ag aj af)
    clear ag af H S
    go_wp2_with (first
     | (go_at_call 166;refine HQ.out.mono ?_;rintro e w3 ⟨g3,L,rfl,E,X,am⟩
        have aF:=Lib.hid X
        have aD:=Lib.hid am
        have aG:=Lib.hid E
        have c9:=E.cell
        have f9:=E.frozen
        clear X am E)
     | go_in)
    go_end0
    exact⟨⟨_,rfl⟩,_,aG.out.set _,aF.out,aD.out.setCell (fun _=>.inl rfl) _⟩
end Go.Proofs.YtonhfknjcbakiaaGreatDoor
namespace Go.Proofs.YtonhfknjcbakiaaGreatDoor
open Go.RowKit
theorem X3 {k:List Fg} (h:vx k=true):k.length<=12/\∀ f ∈ k,f.items.length<=20/\f.vec.length<=20/\∀ e ∈ f.vec,e.holes.length<=30:=by
 obtain⟨a,u⟩:=Z3.1 h
 exact⟨u,fun f j=>⟨(a f j).1,(vw.1 (a f j).2).2,(vw.1 (a f j).2).1⟩⟩
theorem zcS {k:List Fg} (h:vx k=true):SzK k:=by
 obtain⟨y,a⟩:=X3 h
 exact⟨by omega,fun f u=>by
  obtain⟨A,B,w⟩:=a f u
  exact⟨by omega,by omega,fun e j=>by have:=w e j;omega⟩⟩
end Go.Proofs.YtonhfknjcbakiaaGreatDoor
