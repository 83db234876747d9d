import Derived.Deep.LoopGhost
import Derived.Deep.DeepCutAuto
import Derived.Deep.CutBlock
import Derived.Test.YtonhfknjcbakiaaGreatDoorB3
import Derived.Test.YtonhfknjcbakiaaGreatDoorB8
set_option maxHeartbeats 16000000
set_option linter.unusedVariables false
set_option linter.unusedSimpArgs false
set_option maxRecDepth 100000
namespace Go.Proofs.YtonhfknjcbakiaaGreatDoor
open Go.RowKit
attribute [local go_sem] Oper.semAt_some
abbrev Sv:=Option Addr × Nat × Nat
abbrev Fv:=Sv × Sv
def sv (x:Sv):Value:=.slice x.1 x.2.1 x.2.2
def Y4 (p:Nat × Fv):Array Value:=#[.int .i64 (p.1:Nat),.agg #[sv p.2.1,sv p.2.2]]
def wl (a:Nat->Bool):Nat->List Fv->List (Nat × Fv)
 | _,[]=>[]
 | n,f::r=>if a n=true then (n,f)::wl a (n+1) r else wl a (n+1) r
theorem Kw (a:Nat->Bool):∀(l r:List Fv) (n:Nat),wl a n (l++r)=wl a n l++wl a (n+l.length) r
 | [],r,n=>by simp [wl]
 | f::l,r,n=>by
   have:=Kw a l r (n+1)
   rw [List.cons_append,wl,wl,this,List.length_cons,show n+1+l.length=n+(l.length+1) by omega]
   split<;>simp
theorem XF {hit:Nat->Bool} {l:List Fv} {k:Nat} (h:k<l.length):wl hit 0 (l.take (k+1))=wl hit 0 (l.take k)++(if hit k=true then [(k,l[k])] else []):=by
 rw [List.take_succ_eq_append_getElem h,Kw,List.length_take,Nat.min_eq_left (by omega),Nat.zero_add]
 simp [wl]
theorem zi8 {a:Nat->Bool} {l:List Fv} {k:Nat} (h:k<l.length) (u:a k=true):wl a 0 (l.take k)++[(k,l[k])] <+: wl a 0 l:=by
 have j:=XF (hit:=a) h
 rw [if_pos u] at j
 rw [<-j]
 conv=>rhs;rw [<-List.take_append_drop (k+1) l,Kw]
 exact List.prefix_append _ _
def PtF (w j a:Nat) (A B:World):Prop:=A.heap.size<=B.heap.size/\∀ k,k<A.heap.size->(k<w\/k=j\/k=a\/∃ u f,A.heap[k]? = some (.cells u 34 f))->B.heap[k]? = A.heap[k]?
def zeF (A:Nat) (w:World) (y:Option Addr) (j:Nat) (u:List Fv):Prop:=u.length<=j/\j<=maxLen/\(u≠[]->∃ b a,y=some ⟨b,a,none⟩/\b<A/\∀ i (h:i<u.length),w.cell? ⟨b,a+i * 2,none⟩=some (sv u[i].1)/\w.cell? ⟨b,a+i * 2+1,none⟩=some (sv u[i].2))
theorem zew (A:List Fv) (E:Nat->Bool) (av:Option Addr) (af Bk ok I oi S C:Nat) (K:World) (ao:zeF S K av af A)
 (aj:K.cell? ⟨Bk,ok,none⟩=some (.slice av A.length af)) (ai:K.cell? ⟨I,oi,none⟩=some (.int .u64 (C:Nat))) (an:S<=K.heap.size)
 (Q:∀(w:World) (i:Nat) (h:i<A.length),(∀ k,k<S->w.heap[k]? = K.heap[k]?)->S<=w.heap.size->Calls Tryz.prog 111 #[sv A[i].1,.int .u64 (C:Nat)] w fun e w'=>e=.returned (.bool (E i))/\Below w.heap.size w w') :
 v7 Tryz.prog 110 #[.pointer (some ⟨Bk,ok,none⟩),.pointer (some ⟨I,oi,none⟩)] Y4 (fun _=>False) (PtF S Bk I) (wl E 0 A) K:=by
 intro l J Jx hJ ag hY h0
 refine callsIn_wide.2 ?_
 show Calls Tryz.prog 110 #[.func (.yield l) #[] #[],.pointer (some ⟨Bk,ok,none⟩),.pointer (some ⟨I,oi,none⟩)] K _
 have HJ:=Lib.hid hJ
 have aB:=Lib.hid ag
 have HY:=Lib.hid hY
 have HH:=Lib.hid Q
 obtain⟨aC,ax,G⟩:=ao
 have U:=Lib.hid G
 unfold maxLen at ax
 have aw:=aj
 clear hJ ag hY Q G
 go_enter Tryz.func110,Tryz.ntmps110
 go_wp2_with fail
 go_loopg [8] A.length (fun g x wr=>∃ k:Nat,k<=A.length/\g=A.length - k/\x=.int .i64 k/\J (wl E 0 (A.take k)) wr/\(∀ j,j<S->wr.heap[j]? = K.heap[j]?)/\wr.cell? ⟨I,oi,none⟩=some (.int .u64 (C:Nat))/\S<=wr.heap.size)
 case atStart=>exact⟨0,Nat.zero_le _,rfl,rfl,by simpa [wl] using h0,fun _ _=>rfl,ai,an⟩
 case round=>
  obtain⟨k,hk,rfl,rfl,L,B,N,ay⟩:=hrel
  clear h0 aw aj ai an
  by_cases y:k<A.length
  ·obtain⟨b,O,au,ak,P⟩:=U.out (fun e=>by rw [e] at y;simp at y)
   subst au
   obtain⟨c0,c1⟩:=P k y
   have X:=XF (hit:=E) y
   have H:E k=true->_:=zi8 y
   have hH:=fun w=>HH.out w k y
   obtain⟨⟨⟨Z,m0,q0⟩,⟨a1,m1,q1⟩⟩,hf⟩:∃ f,f=A[k]:=⟨_,rfl⟩
   rw [<-hf] at c0 c1 X H
   simp only [<-hf] at hH
   simp only [sv] at c0 c1 hH
   have d0:wr.cell? ⟨b,O+k * 2,none⟩=some (.slice Z m0 q0):=(World.cell?_of_block (a:=⟨b,O+k * 2,none⟩) (B b ak)).trans c0
   have d1:wr.cell? ⟨b,O+k * 2+1,none⟩=some (.slice a1 m1 q1):=(World.cell?_of_block (a:=⟨b,O+k * 2+1,none⟩) (B b ak)).trans c1
   have e0:(wr.alloc (.cells #[.slice Z m0 q0,.slice a1 m1 q1] 34 (0,0))).cell? ⟨I,oi,none⟩=some (.int .u64 (C:Nat)):=(World.cell?_of_block (a:=⟨I,oi,none⟩) (Below.heap_alloc _ _ _ (World.block_lt_of_cell? _ _ N))).trans N
   have ae:=Lib.hid X
   have HP:=Lib.hid H
   have F:=Lib.hid B
   have T:=Lib.hid N
   have ab:=Lib.hid hH
   have ac:=Lib.hid L
   clear P X H B N hH c0 c1 hf L
   have ad:Hid (∀ j,j<S->(wr.alloc (.cells #[.slice Z m0 q0,.slice a1 m1 q1] 34 (0,0))).heap[j]? = K.heap[j]?):=Lib.hid fun j hj=>(Below.heap_alloc _ _ _ (by omega)).trans (F.out j hj)
   go_upto_region 3 with fail
   refine(wpIn_wide (n:=8)).1 ?_
   cases hh:E k with
   | false=>
     gi_wp2_with (refine⟨trivial,?_⟩;gi_at_call 111;refine(callsIn_wide.2 (ab.out _ ad.out (by simp;omega))).mono ?_;rw [hh];rintro e Y ⟨rfl,M⟩)
     refine⟨fun _ h=>(by cases h),?_⟩
     gi_wp2
     go_wp2
     go_roundg (A.length - (k+1))
     case measure=>omega
     case rel=>
      have u:Keep (fun _=>False) wr Y:=((Keep.refl _ _).alloc _).trans (Keep.of_below' M (Nat.le_refl _))
      refine⟨k+1,y,rfl,by simp,?_,fun j hj=>(u.block j (by omega) id).trans (F.out j hj),u.cell_some T.out id,Nat.le_trans ay u.size⟩
      rw [ae.out,hh]
      simp only [Bool.false_eq_true,if_false,List.append_nil]
      exact HJ.out _ _ _ ac.out u
   | true=>
     gi_wp2_with (refine⟨trivial,?_⟩;gi_at_call 111;refine(callsIn_wide.2 (ab.out _ ad.out (by simp;omega))).mono ?_;rw [hh];rintro e Y ⟨rfl,M⟩
                  have u:Keep (fun _=>False) wr Y:=((Keep.refl _ _).alloc _).trans (Keep.of_below' M (Nat.le_refl _))
                  have am:Y.heap[wr.heap.size]? = some (.cells #[.slice Z m0 q0,.slice a1 m1 q1] 34 (0,0)):=(M.block _ (by simp)).trans (World.alloc_heap_new _ _)
                  have x0:Y.cell? ⟨wr.heap.size,0,none⟩=some (.slice Z m0 q0):=by simp [World.cell?,am]
                  have x1:Y.cell? ⟨wr.heap.size,1,none⟩=some (.slice a1 m1 q1):=by simp [World.cell?,am]
                  obtain⟨fn,aA,aq,az,hy,hR⟩:=HY.out _ (k,((Z,m0,q0),(a1,m1,q1))) Y (HJ.out _ _ _ ac.out u) (HP.out hh)
                  simp only [Y4,sv] at hy)
     refine hR.mono ?_
     rintro e w3 (⟨rfl,ar,V⟩ | ⟨rfl,ah⟩)
     ·gi_wp2
      go_wp2
      go_roundg (A.length - (k+1))
      case measure=>omega
      case rel=>
       refine⟨k+1,y,rfl,by simp,?_,fun j hj=>(V.2 j (by have:=u.size;omega) (.inl hj)).trans ((u.block j (by omega) id).trans (F.out j hj)),(World.cell?_of_block (a:=⟨I,oi,none⟩) (V.2 I (Nat.lt_of_lt_of_le (World.block_lt_of_cell? _ _ T.out) u.size) (.inr (.inr (.inl rfl))))).trans (u.cell_some T.out id),by have:=u.size;have:=V.1;omega⟩
       rw [ae.out,hh]
       simpa using ar
     ·gi_wp2
      go_wp2
      refine bodyPost_ret (results_none rfl _ _ _) rfl ?_
      exact⟨⟨_,rfl⟩,.inr ⟨_,HP.out hh,ah⟩⟩
  ·obtain rfl:k=A.length:=by omega
   go_wp2_with fail
   go_end0
   rw [List.take_length] at L
   exact⟨⟨_,rfl⟩,.inl L⟩
attribute [local go_sem] Oper.semAt_some
theorem zex (a:Option Addr) (n c j:Nat) (w:World):Calls Tryz.prog 63 #[.slice a n c,.int .u64 (j:Nat)] w fun e u=>e=.returned (.func (.func 110) #[] #[.pointer (some ⟨w.heap.size,0,none⟩),.pointer (some ⟨w.heap.size+1,0,none⟩)])/\u=(w.alloc (.cells #[.slice a n c] 23)).alloc (.cells #[.int .u64 (j:Nat)] 24):=by
 go_enter Tryz.func63,Tryz.ntmps63
 go_wp2
 go_ret
 exact⟨rfl,rfl⟩
theorem znR {α:Type} {q:α->Bool} {l a:List α} (h:l <+: a) (j:l.any q=true):a.any q=true:=by
 obtain⟨r,rfl⟩:=h
 rw [List.any_append,j]
 rfl
def SH (n:Nat) (A B:World):Prop:=(∃ v,Boxed A n 4 v)/\Keep (fun k=>k=n) A B
theorem SH.pt {n C y w:Nat} {A B:World} (h:SH n A B) (I:C<=n) (E:y≠n) (F:w≠n):PtF C y w A B:=by
 obtain⟨⟨v,G⟩,hk⟩:=h
 refine⟨hk.size,fun k j a=>hk.block k j ?_⟩
 rintro rfl
 rcases a with a | a | a | ⟨H,f,a⟩
 ·omega
 ·exact E a.symm
 ·exact F a.symm
 ·have u:A.heap[k]? = some (.cells #[v] 4 (0,0)):=G
  rw [u] at a
  cases a
theorem zn5 (P:Option Addr) (U Q u r c:Nat) (xs:List (Nat × Fv)) (q:Nat × Fv->Bool) (w:World)
 (hit:∀ W,(∀ k,k<w.heap.size->W.heap[k]? = w.heap[k]?)->w.heap.size+5<=W.heap.size->W.cell? ⟨w.heap.size+3,0,none⟩=some (.slice P U Q)->W.cell? ⟨w.heap.size+4,0,none⟩=some (.int .u64 (u:Nat)) ->
   v7 Tryz.prog 110 #[.pointer (some ⟨w.heap.size+3,0,none⟩),.pointer (some ⟨w.heap.size+4,0,none⟩)] Y4 (fun _=>False) (PtF w.heap.size (w.heap.size+3) (w.heap.size+4)) xs W)
 (T:∀ W p,p ∈ xs->Below w.heap.size w W->Calls Tryz.prog 102 #[sv p.2.2,.int .u64 (r:Nat),.int .u64 (c:Nat)] W fun e W'=>e=.returned (.bool (q p))/\Below W.heap.size W W') :
 Calls Tryz.prog 46 #[.slice P U Q,.int .u64 (u:Nat),.int .u64 (r:Nat),.int .u64 (c:Nat)] w fun e w'=>e=.returned (.bool (xs.any q))/\Below w.heap.size w w':=by
 have ae:=Lib.hid hit
 have HH:=Lib.hid T
 clear hit T
 refine callsIn_wide.1 (callsIn_of_wp_marks (n:=9) Tryz.func46 rfl trivial ?_ rfl)
 simp only [Tryz.ntmps46,List.size_toArray,List.length_cons,List.length_nil,Nat.reduceAdd,Nat.reduceSub,Array.replicate_succ,Array.replicate_zero,List.push_toArray,List.append_toArray,List.nil_append,List.cons_append]
 gi_wp2_with (refine⟨trivial,?_⟩;gi_at_call 63;refine(callsIn_wide.2 (zex _ _ _ _ _)).mono ?_;rintro e w' ⟨rfl,rfl⟩)
 obtain⟨y,F⟩:∃ y,(((((w.alloc (Obj.cells #[.int .u64 (r:Nat)] 24)).alloc (Obj.cells #[.int .u64 (c:Nat)] 24)).alloc (Obj.cells #[.bool false] 4)).alloc (Obj.cells #[.slice P U Q] 23)).alloc (Obj.cells #[.int .u64 (u:Nat)] 24))=y:=⟨_,rfl⟩
 have ag:y.heap.size=w.heap.size+5:=by rw [<-F];simp
 have b0:Boxed y w.heap.size 24 (.int .u64 (r:Nat)):=by rw [<-F];exact((((Boxed.new w _ _).alloc _).alloc _).alloc _).alloc _
 have b1:Boxed y (w.heap.size+1) 24 (.int .u64 (c:Nat)):=by rw [<-F];have:=Boxed.new (w.alloc (Obj.cells #[.int .u64 (r:Nat)] 24)) 24 (.int .u64 (c:Nat));rw [World.size_alloc] at this;exact((this.alloc _).alloc _).alloc _
 have b2:Boxed y (w.heap.size+2) 4 (.bool false):=by rw [<-F];have:=Boxed.new ((w.alloc (Obj.cells #[.int .u64 (r:Nat)] 24)).alloc (Obj.cells #[.int .u64 (c:Nat)] 24)) 4 (.bool false);simp only [World.size_alloc] at this;exact(this.alloc _).alloc _
 have b3:Boxed y (w.heap.size+3) 23 (.slice P U Q):=by rw [<-F];have:=Boxed.new (((w.alloc (Obj.cells #[.int .u64 (r:Nat)] 24)).alloc (Obj.cells #[.int .u64 (c:Nat)] 24)).alloc (Obj.cells #[.bool false] 4)) 23 (.slice P U Q);simp only [World.size_alloc] at this;exact this.alloc _
 have b4:Boxed y (w.heap.size+4) 24 (.int .u64 (u:Nat)):=by rw [<-F];have:=Boxed.new ((((w.alloc (Obj.cells #[.int .u64 (r:Nat)] 24)).alloc (Obj.cells #[.int .u64 (c:Nat)] 24)).alloc (Obj.cells #[.bool false] 4)).alloc (Obj.cells #[.slice P U Q] 23)) 24 (.int .u64 (u:Nat));simp only [World.size_alloc] at this;exact this
 have ab:Below w.heap.size w y:=by rw [<-F];exact(((((Below.refl _ _).alloc (Nat.le_refl _) _).alloc (by simp) _).alloc (by simp;omega) _).alloc (by simp;omega) _).alloc (by simp;omega) _
 try simp only [World.size_alloc]
 rw [F]
 clear F
 refine Xt (w:=y) 110 #[.pointer (some ⟨w.heap.size+3,0,none⟩),.pointer (some ⟨w.heap.size+4,0,none⟩)] rfl (enters_of Tryz.func110 (by kernel_rfl) rfl) Y4 (fun _=>rfl)
  (fun _=>False) (PtF w.heap.size (w.heap.size+3) (w.heap.size+4)) xs ?hit
  (SH (w.heap.size+2)) (fun A B h k hk M=>h.2.block k M (by omega)) (fun A B h=>h.pt (by omega) (by omega) (by omega))
  ?hPt ?hPt0 ⟨id,id⟩
  (fun pre W=>Boxed W w.heap.size 24 (.int .u64 (r:Nat))/\Boxed W (w.heap.size+1) 24 (.int .u64 (c:Nat))/\Boxed W (w.heap.size+2) 4 (.bool false)/\Below w.heap.size w W/\Hid (pre.any q=false))
  (fun cd pre W=>cd=.ret/\Boxed W (w.heap.size+2) 4 (.bool true)/\Below w.heap.size w W/\Hid (pre.any q=true)) ?hI ?hIx ⟨b0,b1,b2,ab,Lib.hid rfl⟩
  (fun pre x a' W=>(Boxed W w.heap.size 24 (.int .u64 (r:Nat))/\Boxed W (w.heap.size+1) 24 (.int .u64 (c:Nat))/\Boxed W (w.heap.size+2) 4 (.bool false)/\Below w.heap.size w W/\Hid (pre.any q=false)) /\
    ∃ V,W.heap[V]? = some (.cells #[sv x.2.1,sv x.2.2] 34 (0,0))/\y.heap.size+2<=V /\
    a'={ tmps:=#[.slice P U Q,.int .u64 (u:Nat),.int .u64 (r:Nat),.int .u64 (c:Nat),undef,undef,.pointer (some ⟨w.heap.size,0,none⟩),.pointer (some ⟨w.heap.size+1,0,none⟩),.pointer (some ⟨w.heap.size+2,0,none⟩),undef,.pointer (some ⟨V,0,none⟩),.slice P U Q,.int .u64 (u:Nat),.func (.func 110) #[] #[.pointer (some ⟨w.heap.size+3,0,none⟩),.pointer (some ⟨w.heap.size+4,0,none⟩)],.int .i64 (x.1:Nat),.agg #[sv x.2.1,sv x.2.2],undef,undef,undef,undef,undef],defers:=[] })
  ?hAx ?hassign ?hbody ?hdone ?hstop
 case hit=>
  intro W hk af
  exact ae.out W (fun k h=>(hk.block k (by omega) id).trans (ab.block k h)) (by omega) (hk.boxed b3 id).cell (hk.boxed b4 id).cell
 case hPt=>
  rintro A B C ⟨H,L⟩ ⟨a,j⟩
  refine⟨Nat.le_trans H a,fun k hk G=>?_⟩
  have e1:=L k hk G
  refine(j k (by omega) ?_).trans e1
  rcases G with G | G | G | ⟨cs,f,G⟩
  ·exact .inl G
  ·exact .inr (.inl G)
  ·exact .inr (.inr (.inl G))
  ·exact .inr (.inr (.inr ⟨cs,f,by rw [e1];exact G⟩))
 case hPt0=>
  rintro A B hk ⟨o,ho⟩
  refine⟨hk.size,fun k M G=>hk.block k M ?_⟩
  rintro rfl
  rcases G with G | G | G | ⟨cs,f,G⟩
  ·omega
  ·omega
  ·omega
  ·rw [ho] at G;cases G
 case hI=>
  rintro pre A B ⟨H,L,a,j,E⟩ X
  have hk:Keep (fun k=>k=y.heap.size\/k=y.heap.size+1) A B:=X.mono fun _ _ h=>h.elim False.elim id
  exact⟨hk.boxed H (by omega),hk.boxed L (by omega),hk.boxed a (by omega),j.trans (hk.below j.size fun k hk=>by omega),E⟩
 case hIx=>
  rintro cd pre A B ⟨H,a,j,E⟩ X
  have hk:Keep (fun k=>k=y.heap.size\/k=y.heap.size+1) A B:=X.mono fun _ _ h=>h.elim False.elim id
  exact⟨H,hk.boxed a (by omega),j.trans (hk.below j.size fun k hk=>by omega),E⟩
 case hAx=>
  rintro pre x a' A B ⟨⟨H,L,a,j,E⟩,V,h6,h7,rfl⟩ hk
  exact⟨⟨hk.boxed H (by omega),hk.boxed L (by omega),hk.boxed a (by omega),j.trans (hk.below j.size fun k hk=>by omega),E⟩,V,hk.obj h6 (by omega),h7,rfl⟩
 case hassign=>
  rintro l pre ⟨i,⟨⟨x0,x1,x2⟩,⟨Z,y1,y2⟩⟩⟩ W Y M hI
  clear Y
  dsimp only [Y4,sv]
  have K:=Lib.hid hI
  clear hI
  gi_wp2
  obtain⟨H,L,a,j,E⟩:=K.out
  have O:∀ o S,Keep S W (W.alloc o):=fun o S=>(Keep.refl _ _).alloc _
  exact⟨⟨⟨_,a⟩,O _ _⟩,⟨(O _ (fun _=>False)).boxed H id,(O _ (fun _=>False)).boxed L id,(O _ (fun _=>False)).boxed a id,j.alloc j.size _,E⟩,W.heap.size,World.alloc_heap_new W _,by omega,rfl⟩
 case hbody=>
  rintro l pre ⟨i,⟨⟨x0,x1,x2⟩,⟨Z,y1,y2⟩⟩⟩ a' W Y M ⟨⟨H,L,a,j,E⟩,V,h6,h7,rfl⟩
  have hm:(i,((x0,x1,x2),(Z,y1,y2))) ∈ xs:=Y.subset (by simp)
  have J:=HH.out W _ hm j
  dsimp only [sv] at J h6 ⊢
  have c0:=H.cell
  have c1:=L.cell
  have c3:W.cell? ⟨V,1,none⟩=some (.slice Z y1 y2):=by simp [World.cell?,h6]
  have ad:(pre++[(i,((x0,x1,x2),(Z,y1,y2)))]).any q=q (i,((x0,x1,x2),(Z,y1,y2))):=by rw [List.any_append,E.out];simp
  have HN:=Lib.hid ad
  have K:=Lib.hid (And.intro a j)
  have HY:=Lib.hid (And.intro H L)
  clear ad H L j E h6
  cases hq:q (i,((x0,x1,x2),(Z,y1,y2))) with
  | true=>
    rw [hq] at J HN
    have HS:=Lib.hid J
    clear J hq a
    gi_wp2_with (refine⟨trivial,?_⟩;gi_at_call 102;refine(callsIn_wide.2 HS.out).mono ?_;rintro e W1 ⟨rfl,I⟩
                 have k1:Keep (fun _=>False) W W1:=Keep.of_below' I (Nat.le_refl _)
                 have a:=k1.boxed K.out.1 id
                 have f3:=a.frozen
                 have d3:=a.cell)
    refine⟨⟨⟨_,K.out.1⟩,(Keep.of_below' (S:=fun k=>k=w.heap.size+2) I (Nat.le_refl _)).setCell (p:=⟨w.heap.size+2,0,none⟩) (fun _=>rfl) _⟩,rfl,a.set _,(K.out.2.trans (I.mono K.out.2.size)).setCell (by simp) _,HN⟩
  | false=>
    rw [hq] at J HN
    have HS:=Lib.hid J
    clear J hq a
    gi_wp2_with (refine⟨trivial,?_⟩;gi_at_call 102;refine(callsIn_wide.2 HS.out).mono ?_;rintro e W1 ⟨rfl,I⟩)
    have k1:Keep (fun _=>False) W W1:=Keep.of_below' I (Nat.le_refl _)
    exact⟨⟨⟨_,K.out.1⟩,Keep.of_below' I (Nat.le_refl _)⟩,k1.boxed HY.out.1 id,k1.boxed HY.out.2 id,k1.boxed K.out.1 id,K.out.2.trans (I.mono K.out.2.size),HN⟩
 case hdone=>
  rintro W ⟨H,L,a,j,E⟩ hD
  have c4:=a.cell
  have f4:=a.frozen
  have K:=Lib.hid (And.intro a (And.intro j E.out))
  clear H L a j E
  gi_wp2
  obtain⟨a,j,E⟩:=K.out
  refine⟨by simp,.inl ⟨_,_,rfl,run_takeDeferred (by rw [Below.heap_setCell _ _ _ _ (by simp;omega)];exact hD),?_⟩⟩
  have N:Keep (fun k=>k=w.heap.size+2\/k=y.heap.size) W ((W.setCell ⟨w.heap.size+2,0,none⟩ (.bool false)).putObj y.heap.size (.deferred none)):=((Keep.refl (fun k=>k=w.heap.size+2\/k=y.heap.size) W).setCell (p:=⟨w.heap.size+2,0,none⟩) (fun _=>.inl rfl) _).putObj (fun _=>.inr rfl) _
  have hr:((W.setCell ⟨w.heap.size+2,0,none⟩ (.bool false)).putObj y.heap.size (.deferred none)).cell? ⟨w.heap.size+2,0,none⟩=some (.bool false):=by
   refine(World.cell?_of_block ?_).trans (a.set (.bool false)).cell
   exact World.putObj_heap_other (by show w.heap.size+2≠_;omega)
  refine⟨.bool false,by simp [results,Tryz.results46,go_sem,hr],?_,j.trans (N.below j.size fun k hk=>by omega)⟩
  rw [E]
 case hstop=>
  rintro cd pre W ac ⟨rfl,a,j,E⟩ hD
  have c4:=a.cell
  have K:=Lib.hid (And.intro a (And.intro j E.out))
  clear a j E
  gi_wp2
  obtain⟨a,j,E⟩:=K.out
  refine⟨by simp,.inl ⟨_,_,rfl,run_takeDeferred hD,?_⟩⟩
  have N:Keep (fun k=>k=y.heap.size) W (W.putObj y.heap.size (.deferred none)):=(Keep.refl (fun k=>k=y.heap.size) W).putObj (fun _=>rfl) _
  have hr:=(N.boxed a (by omega)).cell
  refine⟨.bool true,by simp [results,Tryz.results46,go_sem,hr],?_,j.trans (N.below j.size fun k hk=>by omega)⟩
  rw [znR ac E]
def OwnI (base:Nat) (w:World) (v:Value) (a:List Nat):Prop:=w.ownsRow base 3 1 v a.length (a.map fun x=>.int .i64 (x:Nat))
theorem OwnI.nil (base:Nat) (w:World):OwnI base w (.slice none 0 0) []:=World.ownsRow_nil _ _ _ _
theorem OwnI.keep {base:Nat} {S:Nat->Prop} {w w':World} {v:Value} {l:List Nat} (h:OwnI base w v l) (hb:Keep S w w') (hs:∀ g,base<=g->g<w.heap.size->¬ S g):OwnI base w' v l:=
 hb.ownsRow h fun g a=>hs g (h.lt g a).1 (h.lt g a).2
theorem OwnI.shape {base:Nat} {w:World} {v:Value} {l:List Nat} (h:OwnI base w v l):∃ a n c,v=.slice a n c:=by
 rcases h.2 with⟨rfl,_⟩ | ⟨g,j,u,rfl,_⟩
 ·exact⟨_,_,_,rfl⟩
 ·exact⟨_,_,_,rfl⟩
theorem Tryz.infoInt:(Tryz.prog.info? 3).map (fun i=>(i.zero,i.size,i.bytes))=some (some (Value.int .i64 0),1,8):=by kernel_rfl
theorem JY (base:Nat) (W:World) (v:Value) (l:List Nat) (i:Nat) (u w:Value) (j:OwnI base W v l) (B:base<=W.heap.size) (hl:l.length<=1099511627776) :
 Calls Tryz.prog 107 #[v,.int .i64 (i:Nat),.agg #[u,w]] W fun e L=>∃ K,e=.returned K/\OwnI base L K (l++[i])/\Keep (fun k=>base<=k/\∃ O f,W.heap[k]? = some (.cells O 3 f)) W L:=by
 obtain⟨S,E,H,I,J⟩:=info_parts Tryz.infoInt
 have y:=Lib.hid j
 obtain⟨M,n,c,rfl⟩:=j.shape
 clear j
 go_enter Tryz.func107,Tryz.ntmps107
 have F:Keep (fun _=>False) W ((W.alloc (.cells #[u,w] 34)).alloc (.cells #[.int .i64 (i:Nat)] 3)):=((Keep.refl _ W).alloc _).alloc _
 have G:((W.alloc (.cells #[u,w] 34)).alloc (.cells #[.int .i64 (i:Nat)] 3)).heap[W.heap.size+1]? = some (.cells #[.int .i64 (i:Nat)] 3 (0,0)):=by
  have:=World.alloc_heap_new (W.alloc (.cells #[u,w] 34)) (.cells #[.int .i64 (i:Nat)] 3)
  rwa [World.size_alloc] at this
 have A:=Lib.hid (y.out.keep F fun _ _ _=>id)
 go_wp2_with (at_builtin;refine wpList_append_own_at _ rfl _ _ 89 rfl base 3 S (.int .i64 0) 1 8 Tryz.underlying89 E H I J rfl (by decide) _ _ _ rfl A.out ⟨W.heap.size+1,0,none⟩ 1 1 [.int .i64 (i:Nat)] rfl rfl (kw (cs:=#[.int .i64 (i:Nat)]) (t := 3) (fr:=(0,0)) G) (by simp [Value.oneCell']) (by unfold maxLen;omega) (by omega) (by simp;omega) ?_;intro K T ho C _ _)
 go_ret
 refine⟨_,rfl,by unfold OwnI;simpa using ho,(((Keep.refl _ W).alloc _).alloc _).grown C fun k hk _=>?_⟩
 have a:(Value.slice M n c).ownBlock=some k:=hk
 refine⟨(y.out.lt k a).1,?_⟩
 rcases y.out.2 with⟨e,_⟩ | ⟨g,N,P,e,_,Q,_⟩
 ·rw [e] at a;cases a
 ·rw [e] at a
  have:g=k:=by simpa [Value.ownBlock] using a
  subst this
  exact⟨_,_,Q⟩
attribute [local go_sem] Oper.semAt_some
def zaB (n:Nat) (W:World) (k:Nat):Prop:=n<=k/\∃ a f,W.heap[k]? = some (.cells a 3 f)
def SF (a:Nat) (t:TypeId) (A B:World):Prop:=(∃ v,Boxed A a t v)/\Keep (fun k=>k=a\/zaB (a+4) A k) A B
theorem SF.pt {j E C:Nat} {t:TypeId} {A B:World} (h:SF j t A B) (J:E<j) (K:C<j) (ht:t ≠ 34) (hi : 3 ≠ 34):PtF j E C A B:=by
 obtain⟨⟨v,H⟩,hk⟩:=h
 refine⟨hk.size,fun k w a=>hk.block k w ?_⟩
 rintro(rfl | ⟨L,F,f,u⟩)
 ·rcases a with a | a | a | ⟨F,f,a⟩
  ·omega
  ·omega
  ·omega
  ·have y:A.heap[k]? = some (.cells #[v] t (0,0)):=H
   rw [y] at a
   cases a
   exact ht rfl
 ·rcases a with a | a | a | ⟨G,I,a⟩
  ·omega
  ·omega
  ·omega
  ·rw [u] at a
   cases a
theorem X8 {α:Type} (X:Nat) (lb:Array Value) (Bk Bi:Nat) (xs:List (Nat × Fv)) (w:World) (J:Option Addr) (K:Nat) (eg:∀ U w,(callFunc X U).run Tryz.prog w=.ok (.enter X U) w)
 (hit:∀ W,Below w.heap.size w W->v7 Tryz.prog X lb Y4 (fun _=>False) (PtF w.heap.size Bk Bi) xs W) (av:Bk<w.heap.size) (au:Bi<w.heap.size)
 (E:World->Value->α->Prop) (step:α->Nat × Fv->α) (a0:α) (ag:∀ W,Below w.heap.size w W->E W (.slice J 0 K) a0) (ai:∀ W u a,E W u a->∃ ad n c,u=.slice ad n c)
 (ah:∀ A B u a,E A u a->Keep (fun k=>k=w.heap.size\/k=w.heap.size+2\/k=w.heap.size+3) A B->E B u a)
 (N:∀ W u pre p,pre++[p] <+: xs->w.heap.size+4<=W.heap.size->Below w.heap.size w W->E W u (pre.foldl step a0)->Calls Tryz.prog 64 #[u,.int .i64 (p.1:Nat),.agg #[sv p.2.1,sv p.2.2]] W fun e W'=>
   ∃ u',e=.returned u'/\E W' u' (step (pre.foldl step a0) p)/\Keep (zaB (w.heap.size+4) W) W W') :
 Calls Tryz.prog 62 #[.func (.func X) #[] lb,.slice J 0 K,.func (.func 64) #[] #[]] w fun e w'=>∃ u,e=.returned u/\E w' u (xs.foldl step a0)/\Below w.heap.size w w':=by
 have ao:=Lib.hid hit
 have am:=Lib.hid ag
 have V:=Lib.hid ai
 have M:=Lib.hid ah
 have ar:=Lib.hid N
 clear hit ag ai ah N
 refine callsIn_wide.1 (callsIn_of_wp_marks (n:=9) Tryz.func62 rfl trivial ?_ rfl)
 simp only [Tryz.ntmps62,List.size_toArray,List.length_cons,List.length_nil,Nat.reduceAdd,Nat.reduceSub,Array.replicate_succ,Array.replicate_zero,List.push_toArray,List.append_toArray,List.nil_append,List.cons_append]
 gi_wp2
 obtain⟨I,L⟩:∃ I,((w.alloc (Obj.cells #[Value.slice J 0 K] 32)).alloc (Obj.cells #[Value.func (Fn.func 64) #[] #[]] 99))=I:=⟨_,rfl⟩
 have az:I.heap.size=w.heap.size+2:=by rw [<-L];simp
 have b0:Boxed I w.heap.size 32 (Value.slice J 0 K):=by rw [<-L];exact(Boxed.new w _ _).alloc _
 have b1:Boxed I (w.heap.size+1) 99 (Value.func (Fn.func 64) #[] #[]):=by rw [<-L];have:=Boxed.new (w.alloc (Obj.cells #[Value.slice J 0 K] 32)) 99 (Value.func (Fn.func 64) #[] #[]);rw [World.size_alloc] at this;exact this
 have Y:Below w.heap.size w I:=by rw [<-L];exact((Below.refl _ _).alloc (Nat.le_refl _) _).alloc (by simp) _
 try simp only [World.size_alloc]
 rw [L]
 clear L
 refine Xt (w:=I) X lb rfl eg Y4 (fun _=>rfl) (fun _=>False) (PtF w.heap.size Bk Bi) xs ?hit
  (SF w.heap.size 32) (fun A B h k hk O=>h.2.block k O (by rintro(e | ⟨e,_⟩)<;>omega)) (fun A B h=>h.pt av au (by decide) (by decide))
  ?hPt ?hPt0 ⟨id,id⟩
  (fun pre W=>(∃ u,Boxed W w.heap.size 32 u/\E W u (pre.foldl step a0))/\Boxed W (w.heap.size+1) 99 (Value.func (Fn.func 64) #[] #[])/\Below w.heap.size w W)
  (fun _ _ _=>False) ?hI (fun _ _ _ _ h _=>h) ⟨⟨_,b0,am.out _ Y⟩,b1,Y⟩
  (fun pre x a' W=>((∃ u,Boxed W w.heap.size 32 u/\E W u (pre.foldl step a0))/\Boxed W (w.heap.size+1) 99 (Value.func (Fn.func 64) #[] #[])/\Below w.heap.size w W) /\
    ∃ Q,W.heap[Q]? = some (.cells #[sv x.2.1,sv x.2.2] 34 (0,0))/\I.heap.size+2<=Q /\
    a'={ tmps:=#[Value.func (Fn.func X) #[] lb,Value.slice J 0 K,Value.func (Fn.func 64) #[] #[],undef,Value.pointer (some ⟨w.heap.size,0,none⟩),Value.pointer (some ⟨w.heap.size+1,0,none⟩),Value.slice none 0 0,.int .i64 (x.1:Nat),Value.pointer (some ⟨Q,0,none⟩),Value.func (Fn.func X) #[] lb,.int .i64 (x.1:Nat),.agg #[sv x.2.1,sv x.2.2],undef,undef,undef,undef,undef,undef],defers:=[] })
  ?hAx ?hassign ?hbody ?hdone (fun _ _ _ _ h _=>h.elim)
 case hit=>
  intro W hk ay
  exact ao.out W (Y.trans (hk.below (by omega) fun _ _=>id))
 case hPt=>
  rintro A B C ⟨j,G⟩ ⟨H,y⟩
  refine⟨Nat.le_trans j H,fun k hk F=>?_⟩
  have e1:=G k hk F
  refine(y k (by omega) ?_).trans e1
  rcases F with F | F | F | ⟨cs,f,F⟩
  ·exact .inl F
  ·exact .inr (.inl F)
  ·exact .inr (.inr (.inl F))
  ·exact .inr (.inr (.inr ⟨cs,f,by rw [e1];exact F⟩))
 case hPt0=>
  rintro A B hk ⟨o,ho⟩
  refine⟨hk.size,fun k O F=>hk.block k O ?_⟩
  rintro rfl
  rcases F with F | F | F | ⟨cs,f,F⟩
  ·omega
  ·omega
  ·omega
  ·rw [ho] at F;cases F
 case hI=>
  rintro pre A B ⟨⟨u,j,G⟩,H,y⟩ aw
  have hk:Keep (fun k=>k=I.heap.size\/k=I.heap.size+1) A B:=aw.mono fun _ _ h=>h.elim False.elim id
  exact⟨⟨u,hk.boxed j (by omega),M.out _ _ _ _ G (hk.mono fun k _ h=>by omega)⟩,hk.boxed H (by omega),y.trans (hk.below y.size fun k hk=>by omega)⟩
 case hAx=>
  rintro pre x a' A B ⟨⟨⟨u,j,G⟩,H,y⟩,Q,h5,h6,rfl⟩ hk
  exact⟨⟨⟨u,hk.boxed j (by omega),M.out _ _ _ _ G (hk.mono fun k _ h=>by omega)⟩,hk.boxed H (by omega),y.trans (hk.below y.size fun k hk=>by omega)⟩,Q,hk.obj h5 (by omega),h6,rfl⟩
 case hassign=>
  rintro l pre ⟨i,⟨⟨x0,x1,x2⟩,⟨y0,y1,y2⟩⟩⟩ W ae O ⟨⟨u,j,G⟩,H,y⟩
  clear ae
  dsimp only [Y4,sv]
  have T:=Lib.hid (And.intro j (And.intro G (And.intro H y)))
  clear j G H y
  gi_wp2
  obtain⟨j,G,H,y⟩:=T.out
  have P:∀ o S,Keep S W (W.alloc o):=fun o S=>(Keep.refl _ _).alloc _
  refine⟨⟨⟨u,j⟩,P _ _⟩,⟨⟨u,(P _ (fun _=>False)).boxed j id,M.out _ _ _ _ G (P _ _)⟩,(P _ (fun _=>False)).boxed H id,y.alloc y.size _⟩,W.heap.size,World.alloc_heap_new W _,by omega,rfl⟩
 case hbody=>
  rintro l pre ⟨i,⟨⟨x0,x1,x2⟩,⟨y0,y1,y2⟩⟩⟩ a' W ae O ⟨⟨⟨u,j,G⟩,H,y⟩,Q,h5,h6,rfl⟩
  obtain⟨ua,un,uc,rfl⟩:=V.out _ _ _ G
  have af:=ar.out W _ pre _ ae (by omega) y G
  dsimp only [sv] at af h5 ⊢
  have c0:=j.cell
  have c1:=H.cell
  have c2:W.cell? ⟨Q,0,none⟩=some (.slice x0 x1 x2):=by simp [World.cell?,h5]
  have c3:W.cell? ⟨Q,1,none⟩=some (.slice y0 y1 y2):=by simp [World.cell?,h5]
  have HS:=Lib.hid af
  have T:=Lib.hid (And.intro j (And.intro H y))
  clear af j G H y h5
  gi_wp2_with (refine⟨trivial,?_⟩;gi_at_call 64;refine(callsIn_wide.2 HS.out).mono ?_;rintro e W1 ⟨u',rfl,Z,ab⟩
               obtain⟨va,vn,vc,rfl⟩:=V.out _ _ _ Z
               have j:Boxed W1 w.heap.size 32 (.slice ua un uc):=ab.boxed T.out.1 (fun h=>by have:=h.1;omega)
               have d0:=j.cell
               have d1:=j.frozen
               have an:=Lib.hid Z
               have aq:=Lib.hid ab
               have ak:=Lib.hid j
               clear Z ab j)
  have ax:Keep (fun k=>k=w.heap.size) W1 (W1.setCell ⟨w.heap.size,0,none⟩ (.slice va vn vc)):=(Keep.refl (fun k=>k=w.heap.size) W1).setCell (p:=⟨w.heap.size,0,none⟩) (fun _=>rfl) _
  obtain⟨j,H,y⟩:=T.out
  have ac:Keep (fun k=>k=w.heap.size\/zaB (w.heap.size+4) W k) W (W1.setCell ⟨w.heap.size,0,none⟩ (.slice va vn vc)):=(aq.out.mono fun k _ h=>.inr h).setCell (p:=⟨w.heap.size,0,none⟩) (fun _=>.inl rfl) _
  refine⟨⟨⟨_,j⟩,ac⟩,⟨_,ak.out.set _,?_⟩,ac.boxed H (by rintro(e | ⟨e,_⟩)<;>omega),y.trans (ac.below y.size fun k hk=>by rintro(e | ⟨e,_⟩)<;>omega)⟩
  rw [List.foldl_append]
  exact M.out _ _ _ _ an.out (ax.mono fun k _ h=>.inl h)
 case hdone=>
  rintro W ⟨⟨u,j,G⟩,H,y⟩ hD
  obtain⟨ua,un,uc,rfl⟩:=V.out _ _ _ G
  have F:=j.cell
  have T:=Lib.hid (And.intro G y)
  clear j G H y
  gi_wp2
  refine⟨by simp,.inl ⟨_,_,rfl,run_takeDeferred hD,?_⟩⟩
  have aj:Keep (fun k=>k=I.heap.size) W (W.putObj I.heap.size (.deferred none)):=(Keep.refl (fun k=>k=I.heap.size) W).putObj (fun _=>rfl) _
  exact⟨_,results_tmp rfl _ _ _,_,rfl,M.out _ _ _ _ T.out.1 (aj.mono fun k _ h=>by omega),T.out.2.trans (aj.below T.out.2.size fun k hk=>by omega)⟩
theorem X7 {α:Type} (X:Nat) (lb:Array Value) (Bk Bi:Nat) (xs:List (Nat × Fv)) (w:World) (J:Option Addr) (K:Nat) (eg:∀ U w,(callFunc X U).run Tryz.prog w=.ok (.enter X U) w)
 (hit:∀ W,Below w.heap.size w W->v7 Tryz.prog X lb Y4 (fun _=>False) (PtF w.heap.size Bk Bi) xs W) (av:Bk<w.heap.size) (au:Bi<w.heap.size)
 (E:World->Value->α->Prop) (step:α->Nat × Fv->α) (a0:α) (ag:∀ W,Below w.heap.size w W->E W (.slice J 0 K) a0) (ai:∀ W u a,E W u a->∃ ad n c,u=.slice ad n c)
 (ah:∀ A B u a,E A u a->Keep (fun k=>k=w.heap.size\/k=w.heap.size+2\/k=w.heap.size+3) A B->E B u a)
 (N:∀ W u pre p,pre++[p] <+: xs->w.heap.size+4<=W.heap.size->Below w.heap.size w W->E W u (pre.foldl step a0)->Calls Tryz.prog 107 #[u,.int .i64 (p.1:Nat),.agg #[sv p.2.1,sv p.2.2]] W fun e W'=>
   ∃ u',e=.returned u'/\E W' u' (step (pre.foldl step a0) p)/\Keep (zaB (w.heap.size+4) W) W W') :
 Calls Tryz.prog 106 #[.func (.func X) #[] lb,.slice J 0 K,.func (.func 107) #[] #[]] w fun e w'=>∃ u,e=.returned u/\E w' u (xs.foldl step a0)/\Below w.heap.size w w':=by
 have ao:=Lib.hid hit
 have am:=Lib.hid ag
 have V:=Lib.hid ai
 have M:=Lib.hid ah
 have ar:=Lib.hid N
 clear hit ag ai ah N
 refine callsIn_wide.1 (callsIn_of_wp_marks (n:=9) Tryz.func106 rfl trivial ?_ rfl)
 simp only [Tryz.ntmps106,List.size_toArray,List.length_cons,List.length_nil,Nat.reduceAdd,Nat.reduceSub,Array.replicate_succ,Array.replicate_zero,List.push_toArray,List.append_toArray,List.nil_append,List.cons_append]
 gi_wp2
 obtain⟨I,L⟩:∃ I,((w.alloc (Obj.cells #[Value.slice J 0 K] 89)).alloc (Obj.cells #[Value.func (Fn.func 107) #[] #[]] 133))=I:=⟨_,rfl⟩
 have az:I.heap.size=w.heap.size+2:=by rw [<-L];simp
 have b0:Boxed I w.heap.size 89 (Value.slice J 0 K):=by rw [<-L];exact(Boxed.new w _ _).alloc _
 have b1:Boxed I (w.heap.size+1) 133 (Value.func (Fn.func 107) #[] #[]):=by rw [<-L];have:=Boxed.new (w.alloc (Obj.cells #[Value.slice J 0 K] 89)) 133 (Value.func (Fn.func 107) #[] #[]);rw [World.size_alloc] at this;exact this
 have Y:Below w.heap.size w I:=by rw [<-L];exact((Below.refl _ _).alloc (Nat.le_refl _) _).alloc (by simp) _
 try simp only [World.size_alloc]
 rw [L]
 clear L
 refine Xt (w:=I) X lb rfl eg Y4 (fun _=>rfl) (fun _=>False) (PtF w.heap.size Bk Bi) xs ?hit
  (SF w.heap.size 89) (fun A B h k hk O=>h.2.block k O (by rintro(e | ⟨e,_⟩)<;>omega)) (fun A B h=>h.pt av au (by decide) (by decide))
  ?hPt ?hPt0 ⟨id,id⟩
  (fun pre W=>(∃ u,Boxed W w.heap.size 89 u/\E W u (pre.foldl step a0))/\Boxed W (w.heap.size+1) 133 (Value.func (Fn.func 107) #[] #[])/\Below w.heap.size w W)
  (fun _ _ _=>False) ?hI (fun _ _ _ _ h _=>h) ⟨⟨_,b0,am.out _ Y⟩,b1,Y⟩
  (fun pre x a' W=>((∃ u,Boxed W w.heap.size 89 u/\E W u (pre.foldl step a0))/\Boxed W (w.heap.size+1) 133 (Value.func (Fn.func 107) #[] #[])/\Below w.heap.size w W) /\
    ∃ Q,W.heap[Q]? = some (.cells #[sv x.2.1,sv x.2.2] 34 (0,0))/\I.heap.size+2<=Q /\
    a'={ tmps:=#[Value.func (Fn.func X) #[] lb,Value.slice J 0 K,Value.func (Fn.func 107) #[] #[],undef,Value.pointer (some ⟨w.heap.size,0,none⟩),Value.pointer (some ⟨w.heap.size+1,0,none⟩),Value.slice none 0 0,.int .i64 (x.1:Nat),Value.pointer (some ⟨Q,0,none⟩),Value.func (Fn.func X) #[] lb,.int .i64 (x.1:Nat),.agg #[sv x.2.1,sv x.2.2],undef,undef,undef,undef,undef,undef],defers:=[] })
  ?hAx ?hassign ?hbody ?hdone (fun _ _ _ _ h _=>h.elim)
 case hit=>
  intro W hk ay
  exact ao.out W (Y.trans (hk.below (by omega) fun _ _=>id))
 case hPt=>
  rintro A B C ⟨j,G⟩ ⟨H,y⟩
  refine⟨Nat.le_trans j H,fun k hk F=>?_⟩
  have e1:=G k hk F
  refine(y k (by omega) ?_).trans e1
  rcases F with F | F | F | ⟨cs,f,F⟩
  ·exact .inl F
  ·exact .inr (.inl F)
  ·exact .inr (.inr (.inl F))
  ·exact .inr (.inr (.inr ⟨cs,f,by rw [e1];exact F⟩))
 case hPt0=>
  rintro A B hk ⟨o,ho⟩
  refine⟨hk.size,fun k O F=>hk.block k O ?_⟩
  rintro rfl
  rcases F with F | F | F | ⟨cs,f,F⟩
  ·omega
  ·omega
  ·omega
  ·rw [ho] at F;cases F
 case hI=>
  rintro pre A B ⟨⟨u,j,G⟩,H,y⟩ aw
  have hk:Keep (fun k=>k=I.heap.size\/k=I.heap.size+1) A B:=aw.mono fun _ _ h=>h.elim False.elim id
  exact⟨⟨u,hk.boxed j (by omega),M.out _ _ _ _ G (hk.mono fun k _ h=>by omega)⟩,hk.boxed H (by omega),y.trans (hk.below y.size fun k hk=>by omega)⟩
 case hAx=>
  rintro pre x a' A B ⟨⟨⟨u,j,G⟩,H,y⟩,Q,h5,h6,rfl⟩ hk
  exact⟨⟨⟨u,hk.boxed j (by omega),M.out _ _ _ _ G (hk.mono fun k _ h=>by omega)⟩,hk.boxed H (by omega),y.trans (hk.below y.size fun k hk=>by omega)⟩,Q,hk.obj h5 (by omega),h6,rfl⟩
 case hassign=>
  rintro l pre ⟨i,⟨⟨x0,x1,x2⟩,⟨y0,y1,y2⟩⟩⟩ W ae O ⟨⟨u,j,G⟩,H,y⟩
  clear ae
  dsimp only [Y4,sv]
  have T:=Lib.hid (And.intro j (And.intro G (And.intro H y)))
  clear j G H y
  gi_wp2
  obtain⟨j,G,H,y⟩:=T.out
  have P:∀ o S,Keep S W (W.alloc o):=fun o S=>(Keep.refl _ _).alloc _
  refine⟨⟨⟨u,j⟩,P _ _⟩,⟨⟨u,(P _ (fun _=>False)).boxed j id,M.out _ _ _ _ G (P _ _)⟩,(P _ (fun _=>False)).boxed H id,y.alloc y.size _⟩,W.heap.size,World.alloc_heap_new W _,by omega,rfl⟩
 case hbody=>
  rintro l pre ⟨i,⟨⟨x0,x1,x2⟩,⟨y0,y1,y2⟩⟩⟩ a' W ae O ⟨⟨⟨u,j,G⟩,H,y⟩,Q,h5,h6,rfl⟩
  obtain⟨ua,un,uc,rfl⟩:=V.out _ _ _ G
  have af:=ar.out W _ pre _ ae (by omega) y G
  dsimp only [sv] at af h5 ⊢
  have c0:=j.cell
  have c1:=H.cell
  have c2:W.cell? ⟨Q,0,none⟩=some (.slice x0 x1 x2):=by simp [World.cell?,h5]
  have c3:W.cell? ⟨Q,1,none⟩=some (.slice y0 y1 y2):=by simp [World.cell?,h5]
  have HS:=Lib.hid af
  have T:=Lib.hid (And.intro j (And.intro H y))
  clear af j G H y h5
  gi_wp2_with (refine⟨trivial,?_⟩;gi_at_call 107;refine(callsIn_wide.2 HS.out).mono ?_;rintro e W1 ⟨u',rfl,Z,ab⟩
               obtain⟨va,vn,vc,rfl⟩:=V.out _ _ _ Z
               have j:Boxed W1 w.heap.size 89 (.slice ua un uc):=ab.boxed T.out.1 (fun h=>by have:=h.1;omega)
               have d0:=j.cell
               have d1:=j.frozen
               have an:=Lib.hid Z
               have aq:=Lib.hid ab
               have ak:=Lib.hid j
               clear Z ab j)
  have ax:Keep (fun k=>k=w.heap.size) W1 (W1.setCell ⟨w.heap.size,0,none⟩ (.slice va vn vc)):=(Keep.refl (fun k=>k=w.heap.size) W1).setCell (p:=⟨w.heap.size,0,none⟩) (fun _=>rfl) _
  obtain⟨j,H,y⟩:=T.out
  have ac:Keep (fun k=>k=w.heap.size\/zaB (w.heap.size+4) W k) W (W1.setCell ⟨w.heap.size,0,none⟩ (.slice va vn vc)):=(aq.out.mono fun k _ h=>.inr h).setCell (p:=⟨w.heap.size,0,none⟩) (fun _=>.inl rfl) _
  refine⟨⟨⟨_,j⟩,ac⟩,⟨_,ak.out.set _,?_⟩,ac.boxed H (by rintro(e | ⟨e,_⟩)<;>omega),y.trans (ac.below y.size fun k hk=>by rintro(e | ⟨e,_⟩)<;>omega)⟩
  rw [List.foldl_append]
  exact M.out _ _ _ _ an.out (ax.mono fun k _ h=>.inl h)
 case hdone=>
  rintro W ⟨⟨u,j,G⟩,H,y⟩ hD
  obtain⟨ua,un,uc,rfl⟩:=V.out _ _ _ G
  have F:=j.cell
  have T:=Lib.hid (And.intro G y)
  clear j G H y
  gi_wp2
  refine⟨by simp,.inl ⟨_,_,rfl,run_takeDeferred hD,?_⟩⟩
  have aj:Keep (fun k=>k=I.heap.size) W (W.putObj I.heap.size (.deferred none)):=(Keep.refl (fun k=>k=I.heap.size) W).putObj (fun _=>rfl) _
  exact⟨_,results_tmp rfl _ _ _,_,rfl,M.out _ _ _ _ T.out.1 (aj.mono fun k _ h=>by omega),T.out.2.trans (aj.below T.out.2.size fun k hk=>by omega)⟩
end Go.Proofs.YtonhfknjcbakiaaGreatDoor
