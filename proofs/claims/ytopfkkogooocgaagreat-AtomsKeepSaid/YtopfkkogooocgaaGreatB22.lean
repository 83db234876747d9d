import Derived.Deep.LoopGhost
import Derived.Deep.DeepCutAuto
import Derived.Deep.CutBlock
import Derived.Test.YtopfkkogooocgaaGreatB8
import Derived.Test.YtopfkkogooocgaaGreatB19
set_option maxHeartbeats 16000000
set_option linter.unusedVariables false
set_option linter.unusedSimpArgs false
set_option maxRecDepth 100000
namespace Go.Proofs.YtopfkkogooocgaaGreat
open Go.RowKit
attribute [local go_sem] Oper.semAt_some
abbrev Sv:=Option Addr × Nat × Nat
abbrev Fv:=Sv × Sv
def sv (x:Sv):Value:=.slice x.1 x.2.1 x.2.2
def Y4 (p:Nat × Fv):Array Value:=#[.int .i64 (p.1:Nat),.agg #[sv p.2.1,sv p.2.2]]
def wl (hit:Nat->Bool):Nat->List Fv->List (Nat × Fv)
 | _,[]=>[]
 | n,f::r=>if hit n=true then (n,f)::wl hit (n+1) r else wl hit (n+1) r
theorem Kw (hit:Nat->Bool):∀(l r:List Fv) (n:Nat),wl hit n (l++r)=wl hit n l++wl hit (n+l.length) r
 | [],r,n=>by simp [wl]
 | f::l,r,n=>by
   have:=Kw hit l r (n+1)
   rw [List.cons_append,wl,wl,this,List.length_cons,show n+1+l.length=n+(l.length+1) by omega]
   split<;>simp
theorem XF {hit:Nat->Bool} {l:List Fv} {k:Nat} (h:k<l.length):wl hit 0 (l.take (k+1))=wl hit 0 (l.take k)++(if hit k=true then [(k,l[k])] else []):=by
 rw [List.take_succ_eq_append_getElem h,Kw,List.length_take,Nat.min_eq_left (by omega),Nat.zero_add]
 simp [wl]
theorem zi8 {hit:Nat->Bool} {l:List Fv} {k:Nat} (h:k<l.length) (hh:hit k=true):wl hit 0 (l.take k)++[(k,l[k])] <+: wl hit 0 l:=by
 have h1:=XF (hit:=hit) h
 rw [if_pos hh] at h1
 rw [<-h1]
 conv=>rhs;rw [<-List.take_append_drop (k+1) l,Kw]
 exact List.prefix_append _ _
def PtF (n0 Bk Bi:Nat) (A B:World):Prop:=A.heap.size<=B.heap.size/\∀ k,k<A.heap.size->(k<n0\/k=Bk\/k=Bi\/∃ cs f,A.heap[k]? = some (.cells cs 32 f))->B.heap[k]? = A.heap[k]?
def zeF (n0:Nat) (w:World) (av:Option Addr) (cap:Nat) (fs:List Fv):Prop:=fs.length<=cap/\cap<=maxLen/\(fs≠[]->∃ b off,av=some ⟨b,off,none⟩/\b<n0/\∀ i (h:i<fs.length),w.cell? ⟨b,off+i * 2,none⟩=some (sv fs[i].1)/\w.cell? ⟨b,off+i * 2+1,none⟩=some (sv fs[i].2))
theorem zew (fs:List Fv) (hit:Nat->Bool) (av:Option Addr) (cap Bk ok Bi oi n0 item:Nat) (W0:World) (hrow:zeF n0 W0 av cap fs)
 (hbk:W0.cell? ⟨Bk,ok,none⟩=some (.slice av fs.length cap)) (hbi:W0.cell? ⟨Bi,oi,none⟩=some (.int .u64 (item:Nat))) (hn0:n0<=W0.heap.size)
 (hhas:∀(w:World) (i:Nat) (h:i<fs.length),(∀ k,k<n0->w.heap[k]? = W0.heap[k]?)->n0<=w.heap.size->Calls Tryz.prog 57 #[sv fs[i].1,.int .u64 (item:Nat)] w fun e w'=>e=.returned (.bool (hit i))/\Below w.heap.size w w') :
 v7 Tryz.prog 56 #[.pointer (some ⟨Bk,ok,none⟩),.pointer (some ⟨Bi,oi,none⟩)] Y4 (fun _=>False) (PtF n0 Bk Bi) (wl hit 0 fs) W0:=by
 intro l J Jx hJ hJx hY h0
 refine callsIn_wide.2 ?_
 show Calls Tryz.prog 56 #[.func (.yield l) #[] #[],.pointer (some ⟨Bk,ok,none⟩),.pointer (some ⟨Bi,oi,none⟩)] W0 _
 have HJ:=Lib.hid hJ
 have HJx:=Lib.hid hJx
 have HY:=Lib.hid hY
 have HH:=Lib.hid hhas
 obtain⟨hlc,hcm,hcell⟩:=hrow
 have HCell:=Lib.hid hcell
 unfold maxLen at hcm
 have hc0:=hbk
 clear hJ hJx hY hhas hcell
 go_enter Tryz.func56,Tryz.ntmps56
 go_wp2_with fail
 go_loopg [8] fs.length (fun g x wr=>∃ k:Nat,k<=fs.length/\g=fs.length - k/\x=.int .i64 k/\J (wl hit 0 (fs.take k)) wr/\(∀ j,j<n0->wr.heap[j]? = W0.heap[j]?)/\wr.cell? ⟨Bi,oi,none⟩=some (.int .u64 (item:Nat))/\n0<=wr.heap.size)
 case atStart=>exact⟨0,Nat.zero_le _,rfl,rfl,by simpa [wl] using h0,fun _ _=>rfl,hbi,hn0⟩
 case round=>
  obtain⟨k,hk,rfl,rfl,hJk,hlow,hbw,hns⟩:=hrel
  clear h0 hc0 hbk hbi hn0
  by_cases hlt:k<fs.length
  ·obtain⟨b,off,hab,hbn,hcel⟩:=HCell.out (fun e=>by rw [e] at hlt;simp at hlt)
   subst hab
   obtain⟨c0,c1⟩:=hcel k hlt
   have htk:=XF (hit:=hit) hlt
   have hpre:hit k=true->_:=zi8 hlt
   have hH:=fun w=>HH.out w k hlt
   obtain⟨⟨⟨a0,m0,q0⟩,⟨a1,m1,q1⟩⟩,hf⟩:∃ f,f=fs[k]:=⟨_,rfl⟩
   rw [<-hf] at c0 c1 htk hpre
   simp only [<-hf] at hH
   simp only [sv] at c0 c1 hH
   have d0:wr.cell? ⟨b,off+k * 2,none⟩=some (.slice a0 m0 q0):=(World.cell?_of_block (a:=⟨b,off+k * 2,none⟩) (hlow b hbn)).trans c0
   have d1:wr.cell? ⟨b,off+k * 2+1,none⟩=some (.slice a1 m1 q1):=(World.cell?_of_block (a:=⟨b,off+k * 2+1,none⟩) (hlow b hbn)).trans c1
   have e0:(wr.alloc (.cells #[.slice a0 m0 q0,.slice a1 m1 q1] 32 (0,0))).cell? ⟨Bi,oi,none⟩=some (.int .u64 (item:Nat)):=(World.cell?_of_block (a:=⟨Bi,oi,none⟩) (Below.heap_alloc _ _ _ (World.block_lt_of_cell? _ _ hbw))).trans hbw
   have HTK:=Lib.hid htk
   have HP:=Lib.hid hpre
   have HLow:=Lib.hid hlow
   have HBW:=Lib.hid hbw
   have HH2:=Lib.hid hH
   have HJk:=Lib.hid hJk
   clear hcel htk hpre hlow hbw hH c0 c1 hf hJk
   have HL1:Hid (∀ j,j<n0->(wr.alloc (.cells #[.slice a0 m0 q0,.slice a1 m1 q1] 32 (0,0))).heap[j]? = W0.heap[j]?):=Lib.hid fun j hj=>(Below.heap_alloc _ _ _ (by omega)).trans (HLow.out j hj)
   go_upto_region 3 with fail
   refine(wpIn_wide (n:=8)).1 ?_
   cases hh:hit k with
   | false=>
     gi_wp2_with (refine⟨trivial,?_⟩;gi_at_call 57;refine(callsIn_wide.2 (HH2.out _ HL1.out (by simp;omega))).mono ?_;rw [hh];rintro e w1 ⟨rfl,hb1⟩)
     refine⟨fun _ h=>(by cases h),?_⟩
     gi_wp2
     go_wp2
     go_roundg (fs.length - (k+1))
     case measure=>omega
     case rel=>
      have hkw:Keep (fun _=>False) wr w1:=((Keep.refl _ _).alloc _).trans (Keep.of_below' hb1 (Nat.le_refl _))
      refine⟨k+1,hlt,rfl,by simp,?_,fun j hj=>(hkw.block j (by omega) id).trans (HLow.out j hj),hkw.cell_some HBW.out id,Nat.le_trans hns hkw.size⟩
      rw [HTK.out,hh]
      simp only [Bool.false_eq_true,if_false,List.append_nil]
      exact HJ.out _ _ _ HJk.out hkw
   | true=>
     gi_wp2_with (refine⟨trivial,?_⟩;gi_at_call 57;refine(callsIn_wide.2 (HH2.out _ HL1.out (by simp;omega))).mono ?_;rw [hh];rintro e w1 ⟨rfl,hb1⟩
                  have hkw:Keep (fun _=>False) wr w1:=((Keep.refl _ _).alloc _).trans (Keep.of_below' hb1 (Nat.le_refl _))
                  have hbx:w1.heap[wr.heap.size]? = some (.cells #[.slice a0 m0 q0,.slice a1 m1 q1] 32 (0,0)):=(hb1.block _ (by simp)).trans (World.alloc_heap_new _ _)
                  have x0:w1.cell? ⟨wr.heap.size,0,none⟩=some (.slice a0 m0 q0):=by simp [World.cell?,hbx]
                  have x1:w1.cell? ⟨wr.heap.size,1,none⟩=some (.slice a1 m1 q1):=by simp [World.cell?,hbx]
                  obtain⟨fn,tmps,assign,body,hy,hR⟩:=HY.out _ (k,((a0,m0,q0),(a1,m1,q1))) w1 (HJ.out _ _ _ HJk.out hkw) (HP.out hh)
                  simp only [Y4,sv] at hy)
     refine hR.mono ?_
     rintro e w3 (⟨rfl,hJ3,hk3⟩ | ⟨rfl,hJx3⟩)
     ·gi_wp2
      go_wp2
      go_roundg (fs.length - (k+1))
      case measure=>omega
      case rel=>
       refine⟨k+1,hlt,rfl,by simp,?_,fun j hj=>(hk3.2 j (by have:=hkw.size;omega) (.inl hj)).trans ((hkw.block j (by omega) id).trans (HLow.out j hj)),(World.cell?_of_block (a:=⟨Bi,oi,none⟩) (hk3.2 Bi (Nat.lt_of_lt_of_le (World.block_lt_of_cell? _ _ HBW.out) hkw.size) (.inr (.inr (.inl rfl))))).trans (hkw.cell_some HBW.out id),by have:=hkw.size;have:=hk3.1;omega⟩
       rw [HTK.out,hh]
       simpa using hJ3
     ·gi_wp2
      go_wp2
      refine bodyPost_ret (results_none rfl _ _ _) rfl ?_
      exact⟨⟨_,rfl⟩,.inr ⟨_,HP.out hh,hJx3⟩⟩
  ·obtain rfl:k=fs.length:=by omega
   go_wp2_with fail
   go_end0
   rw [List.take_length] at hJk
   exact⟨⟨_,rfl⟩,.inl hJk⟩
attribute [local go_sem] Oper.semAt_some
def zaB (n:Nat) (W:World) (k:Nat):Prop:=n<=k/\∃ cs f,W.heap[k]? = some (.cells cs 3 f)
def SF (n0:Nat) (t:TypeId) (A B:World):Prop:=(∃ v,Boxed A n0 t v)/\Keep (fun k=>k=n0\/zaB (n0+4) A k) A B
theorem SF.pt {n0 Bk Bi:Nat} {t:TypeId} {A B:World} (h:SF n0 t A B) (h1:Bk<n0) (h2:Bi<n0) (ht:t ≠ 32) (hi : 3 ≠ 32):PtF n0 Bk Bi A B:=by
 obtain⟨⟨v,hv⟩,hk⟩:=h
 refine⟨hk.size,fun k hlt hc=>hk.block k hlt ?_⟩
 rintro(rfl | ⟨h4,cs,f,hcs⟩)
 ·rcases hc with hc | hc | hc | ⟨cs,f,hc⟩
  ·omega
  ·omega
  ·omega
  ·have hv':A.heap[k]? = some (.cells #[v] t (0,0)):=hv
   rw [hv'] at hc
   cases hc
   exact ht rfl
 ·rcases hc with hc | hc | hc | ⟨cs2,f2,hc⟩
  ·omega
  ·omega
  ·omega
  ·rw [hcs] at hc
   cases hc
theorem X8 {α:Type} (gf:Nat) (lb:Array Value) (Bk Bi:Nat) (xs:List (Nat × Fv)) (w:World) (ad0:Option Addr) (c0':Nat) (eg:∀ args w,(callFunc gf args).run Tryz.prog w=.ok (.enter gf args) w)
 (hit:∀ W,Below w.heap.size w W->v7 Tryz.prog gf lb Y4 (fun _=>False) (PtF w.heap.size Bk Bi) xs W) (hBk:Bk<w.heap.size) (hBi:Bi<w.heap.size)
 (Inv:World->Value->α->Prop) (step:α->Nat × Fv->α) (a0:α) (hI0:∀ W,Below w.heap.size w W->Inv W (.slice ad0 0 c0') a0) (hIs:∀ W u a,Inv W u a->∃ ad n c,u=.slice ad n c)
 (hIk:∀ A B u a,Inv A u a->Keep (fun k=>k=w.heap.size\/k=w.heap.size+2\/k=w.heap.size+3) A B->Inv B u a)
 (hStep:∀ W u pre p,pre++[p] <+: xs->w.heap.size+4<=W.heap.size->Below w.heap.size w W->Inv W u (pre.foldl step a0)->Calls Tryz.prog 36 #[u,.int .i64 (p.1:Nat),.agg #[sv p.2.1,sv p.2.2]] W fun e W'=>
   ∃ u',e=.returned u'/\Inv W' u' (step (pre.foldl step a0) p)/\Keep (zaB (w.heap.size+4) W) W W') :
 Calls Tryz.prog 34 #[.func (.func gf) #[] lb,.slice ad0 0 c0',.func (.func 36) #[] #[]] w fun e w'=>∃ u,e=.returned u/\Inv w' u (xs.foldl step a0)/\Below w.heap.size w w':=by
 have HIT:=Lib.hid hit
 have HI0:=Lib.hid hI0
 have HIS:=Lib.hid hIs
 have HIK:=Lib.hid hIk
 have HST:=Lib.hid hStep
 clear hit hI0 hIs hIk hStep
 refine callsIn_wide.1 (callsIn_of_wp_marks (n:=9) Tryz.func34 rfl trivial ?_ rfl)
 simp only [Tryz.ntmps34,List.size_toArray,List.length_cons,List.length_nil,Nat.reduceAdd,Nat.reduceSub,Array.replicate_succ,Array.replicate_zero,List.push_toArray,List.append_toArray,List.nil_append,List.cons_append]
 gi_wp2
 obtain⟨W0,hW0⟩:∃ W0,((w.alloc (Obj.cells #[Value.slice ad0 0 c0'] 30)).alloc (Obj.cells #[Value.func (Fn.func 36) #[] #[]] 68))=W0:=⟨_,rfl⟩
 have hsz:W0.heap.size=w.heap.size+2:=by rw [<-hW0];simp
 have b0:Boxed W0 w.heap.size 30 (Value.slice ad0 0 c0'):=by rw [<-hW0];exact(Boxed.new w _ _).alloc _
 have b1:Boxed W0 (w.heap.size+1) 68 (Value.func (Fn.func 36) #[] #[]):=by rw [<-hW0];have:=Boxed.new (w.alloc (Obj.cells #[Value.slice ad0 0 c0'] 30)) 68 (Value.func (Fn.func 36) #[] #[]);rw [World.size_alloc] at this;exact this
 have hB0:Below w.heap.size w W0:=by rw [<-hW0];exact((Below.refl _ _).alloc (Nat.le_refl _) _).alloc (by simp) _
 try simp only [World.size_alloc]
 rw [hW0]
 clear hW0
 refine Xt (w:=W0) gf lb rfl eg Y4 (fun _=>rfl) (fun _=>False) (PtF w.heap.size Bk Bi) xs ?hit
  (SF w.heap.size 30) (fun A B h k hk hlt=>h.2.block k hlt (by rintro(e | ⟨e,_⟩)<;>omega)) (fun A B h=>h.pt hBk hBi (by decide) (by decide))
  ?hPt ?hPt0 ⟨id,id⟩
  (fun pre W=>(∃ u,Boxed W w.heap.size 30 u/\Inv W u (pre.foldl step a0))/\Boxed W (w.heap.size+1) 68 (Value.func (Fn.func 36) #[] #[])/\Below w.heap.size w W)
  (fun _ _ _=>False) ?hI (fun _ _ _ _ h _=>h) ⟨⟨_,b0,HI0.out _ hB0⟩,b1,hB0⟩
  (fun pre x a' W=>((∃ u,Boxed W w.heap.size 30 u/\Inv W u (pre.foldl step a0))/\Boxed W (w.heap.size+1) 68 (Value.func (Fn.func 36) #[] #[])/\Below w.heap.size w W) /\
    ∃ B8,W.heap[B8]? = some (.cells #[sv x.2.1,sv x.2.2] 32 (0,0))/\W0.heap.size+2<=B8 /\
    a'={ tmps:=#[Value.func (Fn.func gf) #[] lb,Value.slice ad0 0 c0',Value.func (Fn.func 36) #[] #[],undef,Value.pointer (some ⟨w.heap.size,0,none⟩),Value.pointer (some ⟨w.heap.size+1,0,none⟩),Value.slice none 0 0,.int .i64 (x.1:Nat),Value.pointer (some ⟨B8,0,none⟩),Value.func (Fn.func gf) #[] lb,.int .i64 (x.1:Nat),.agg #[sv x.2.1,sv x.2.2],undef,undef,undef,undef,undef,undef],defers:=[] })
  ?hAx ?hassign ?hbody ?hdone (fun _ _ _ _ h _=>h.elim)
 case hit=>
  intro W hk hWs
  exact HIT.out W (hB0.trans (hk.below (by omega) fun _ _=>id))
 case hPt=>
  rintro A B C ⟨h1,h2⟩ ⟨h3,h4⟩
  refine⟨Nat.le_trans h1 h3,fun k hk hc=>?_⟩
  have e1:=h2 k hk hc
  refine(h4 k (by omega) ?_).trans e1
  rcases hc with hc | hc | hc | ⟨cs,f,hc⟩
  ·exact .inl hc
  ·exact .inr (.inl hc)
  ·exact .inr (.inr (.inl hc))
  ·exact .inr (.inr (.inr ⟨cs,f,by rw [e1];exact hc⟩))
 case hPt0=>
  rintro A B hk ⟨o,ho⟩
  refine⟨hk.size,fun k hlt hc=>hk.block k hlt ?_⟩
  rintro rfl
  rcases hc with hc | hc | hc | ⟨cs,f,hc⟩
  ·omega
  ·omega
  ·omega
  ·rw [ho] at hc;cases hc
 case hI=>
  rintro pre A B ⟨⟨u,h1,h2⟩,h3,h4⟩ hk0
  have hk:Keep (fun k=>k=W0.heap.size\/k=W0.heap.size+1) A B:=hk0.mono fun _ _ h=>h.elim False.elim id
  exact⟨⟨u,hk.boxed h1 (by omega),HIK.out _ _ _ _ h2 (hk.mono fun k _ h=>by omega)⟩,hk.boxed h3 (by omega),h4.trans (hk.below h4.size fun k hk=>by omega)⟩
 case hAx=>
  rintro pre x a' A B ⟨⟨⟨u,h1,h2⟩,h3,h4⟩,B8,h5,h6,rfl⟩ hk
  exact⟨⟨⟨u,hk.boxed h1 (by omega),HIK.out _ _ _ _ h2 (hk.mono fun k _ h=>by omega)⟩,hk.boxed h3 (by omega),h4.trans (hk.below h4.size fun k hk=>by omega)⟩,B8,hk.obj h5 (by omega),h6,rfl⟩
 case hassign=>
  rintro l pre ⟨i,⟨⟨x0,x1,x2⟩,⟨y0,y1,y2⟩⟩⟩ W hpx hlt ⟨⟨u,h1,h2⟩,h3,h4⟩
  clear hpx
  dsimp only [Y4,sv]
  have HX:=Lib.hid (And.intro h1 (And.intro h2 (And.intro h3 h4)))
  clear h1 h2 h3 h4
  gi_wp2
  obtain⟨h1,h2,h3,h4⟩:=HX.out
  have hka:∀ o S,Keep S W (W.alloc o):=fun o S=>(Keep.refl _ _).alloc _
  refine⟨⟨⟨u,h1⟩,hka _ _⟩,⟨⟨u,(hka _ (fun _=>False)).boxed h1 id,HIK.out _ _ _ _ h2 (hka _ _)⟩,(hka _ (fun _=>False)).boxed h3 id,h4.alloc h4.size _⟩,W.heap.size,World.alloc_heap_new W _,by omega,rfl⟩
 case hbody=>
  rintro l pre ⟨i,⟨⟨x0,x1,x2⟩,⟨y0,y1,y2⟩⟩⟩ a' W hpx hlt ⟨⟨⟨u,h1,h2⟩,h3,h4⟩,B8,h5,h6,rfl⟩
  obtain⟨ua,un,uc,rfl⟩:=HIS.out _ _ _ h2
  have hst:=HST.out W _ pre _ hpx (by omega) h4 h2
  dsimp only [sv] at hst h5 ⊢
  have c0:=h1.cell
  have c1:=h3.cell
  have c2:W.cell? ⟨B8,0,none⟩=some (.slice x0 x1 x2):=by simp [World.cell?,h5]
  have c3:W.cell? ⟨B8,1,none⟩=some (.slice y0 y1 y2):=by simp [World.cell?,h5]
  have HS:=Lib.hid hst
  have HX:=Lib.hid (And.intro h1 (And.intro h3 h4))
  clear hst h1 h2 h3 h4 h5
  gi_wp2_with (refine⟨trivial,?_⟩;gi_at_call 36;refine(callsIn_wide.2 HS.out).mono ?_;rintro e W1 ⟨u',rfl,hi1,hk1⟩
               obtain⟨va,vn,vc,rfl⟩:=HIS.out _ _ _ hi1
               have h1:Boxed W1 w.heap.size 30 (.slice ua un uc):=hk1.boxed HX.out.1 (fun h=>by have:=h.1;omega)
               have d0:=h1.cell
               have d1:=h1.frozen
               have HI1:=Lib.hid hi1
               have HK1:=Lib.hid hk1
               have HB1:=Lib.hid h1
               clear hi1 hk1 h1)
  have hkx:Keep (fun k=>k=w.heap.size) W1 (W1.setCell ⟨w.heap.size,0,none⟩ (.slice va vn vc)):=(Keep.refl (fun k=>k=w.heap.size) W1).setCell (p:=⟨w.heap.size,0,none⟩) (fun _=>rfl) _
  obtain⟨h1,h3,h4⟩:=HX.out
  have hkk:Keep (fun k=>k=w.heap.size\/zaB (w.heap.size+4) W k) W (W1.setCell ⟨w.heap.size,0,none⟩ (.slice va vn vc)):=(HK1.out.mono fun k _ h=>.inr h).setCell (p:=⟨w.heap.size,0,none⟩) (fun _=>.inl rfl) _
  refine⟨⟨⟨_,h1⟩,hkk⟩,⟨_,HB1.out.set _,?_⟩,hkk.boxed h3 (by rintro(e | ⟨e,_⟩)<;>omega),h4.trans (hkk.below h4.size fun k hk=>by rintro(e | ⟨e,_⟩)<;>omega)⟩
  rw [List.foldl_append]
  exact HIK.out _ _ _ _ HI1.out (hkx.mono fun k _ h=>.inl h)
 case hdone=>
  rintro W ⟨⟨u,h1,h2⟩,h3,h4⟩ hD
  obtain⟨ua,un,uc,rfl⟩:=HIS.out _ _ _ h2
  have hc:=h1.cell
  have HX:=Lib.hid (And.intro h2 h4)
  clear h1 h2 h3 h4
  gi_wp2
  refine⟨by simp,.inl ⟨_,_,rfl,run_takeDeferred hD,?_⟩⟩
  have hkD:Keep (fun k=>k=W0.heap.size) W (W.putObj W0.heap.size (.deferred none)):=(Keep.refl (fun k=>k=W0.heap.size) W).putObj (fun _=>rfl) _
  exact⟨_,results_tmp rfl _ _ _,_,rfl,HIK.out _ _ _ _ HX.out.1 (hkD.mono fun k _ h=>by omega),HX.out.2.trans (hkD.below HX.out.2.size fun k hk=>by omega)⟩
theorem X7 {α:Type} (gf:Nat) (lb:Array Value) (Bk Bi:Nat) (xs:List (Nat × Fv)) (w:World) (ad0:Option Addr) (c0':Nat) (eg:∀ args w,(callFunc gf args).run Tryz.prog w=.ok (.enter gf args) w)
 (hit:∀ W,Below w.heap.size w W->v7 Tryz.prog gf lb Y4 (fun _=>False) (PtF w.heap.size Bk Bi) xs W) (hBk:Bk<w.heap.size) (hBi:Bi<w.heap.size)
 (Inv:World->Value->α->Prop) (step:α->Nat × Fv->α) (a0:α) (hI0:∀ W,Below w.heap.size w W->Inv W (.slice ad0 0 c0') a0) (hIs:∀ W u a,Inv W u a->∃ ad n c,u=.slice ad n c)
 (hIk:∀ A B u a,Inv A u a->Keep (fun k=>k=w.heap.size\/k=w.heap.size+2\/k=w.heap.size+3) A B->Inv B u a)
 (hStep:∀ W u pre p,pre++[p] <+: xs->w.heap.size+4<=W.heap.size->Below w.heap.size w W->Inv W u (pre.foldl step a0)->Calls Tryz.prog 53 #[u,.int .i64 (p.1:Nat),.agg #[sv p.2.1,sv p.2.2]] W fun e W'=>
   ∃ u',e=.returned u'/\Inv W' u' (step (pre.foldl step a0) p)/\Keep (zaB (w.heap.size+4) W) W W') :
 Calls Tryz.prog 52 #[.func (.func gf) #[] lb,.slice ad0 0 c0',.func (.func 53) #[] #[]] w fun e w'=>∃ u,e=.returned u/\Inv w' u (xs.foldl step a0)/\Below w.heap.size w w':=by
 have HIT:=Lib.hid hit
 have HI0:=Lib.hid hI0
 have HIS:=Lib.hid hIs
 have HIK:=Lib.hid hIk
 have HST:=Lib.hid hStep
 clear hit hI0 hIs hIk hStep
 refine callsIn_wide.1 (callsIn_of_wp_marks (n:=9) Tryz.func52 rfl trivial ?_ rfl)
 simp only [Tryz.ntmps52,List.size_toArray,List.length_cons,List.length_nil,Nat.reduceAdd,Nat.reduceSub,Array.replicate_succ,Array.replicate_zero,List.push_toArray,List.append_toArray,List.nil_append,List.cons_append]
 gi_wp2
 obtain⟨W0,hW0⟩:∃ W0,((w.alloc (Obj.cells #[Value.slice ad0 0 c0'] 60)).alloc (Obj.cells #[Value.func (Fn.func 53) #[] #[]] 87))=W0:=⟨_,rfl⟩
 have hsz:W0.heap.size=w.heap.size+2:=by rw [<-hW0];simp
 have b0:Boxed W0 w.heap.size 60 (Value.slice ad0 0 c0'):=by rw [<-hW0];exact(Boxed.new w _ _).alloc _
 have b1:Boxed W0 (w.heap.size+1) 87 (Value.func (Fn.func 53) #[] #[]):=by rw [<-hW0];have:=Boxed.new (w.alloc (Obj.cells #[Value.slice ad0 0 c0'] 60)) 87 (Value.func (Fn.func 53) #[] #[]);rw [World.size_alloc] at this;exact this
 have hB0:Below w.heap.size w W0:=by rw [<-hW0];exact((Below.refl _ _).alloc (Nat.le_refl _) _).alloc (by simp) _
 try simp only [World.size_alloc]
 rw [hW0]
 clear hW0
 refine Xt (w:=W0) gf lb rfl eg Y4 (fun _=>rfl) (fun _=>False) (PtF w.heap.size Bk Bi) xs ?hit
  (SF w.heap.size 60) (fun A B h k hk hlt=>h.2.block k hlt (by rintro(e | ⟨e,_⟩)<;>omega)) (fun A B h=>h.pt hBk hBi (by decide) (by decide))
  ?hPt ?hPt0 ⟨id,id⟩
  (fun pre W=>(∃ u,Boxed W w.heap.size 60 u/\Inv W u (pre.foldl step a0))/\Boxed W (w.heap.size+1) 87 (Value.func (Fn.func 53) #[] #[])/\Below w.heap.size w W)
  (fun _ _ _=>False) ?hI (fun _ _ _ _ h _=>h) ⟨⟨_,b0,HI0.out _ hB0⟩,b1,hB0⟩
  (fun pre x a' W=>((∃ u,Boxed W w.heap.size 60 u/\Inv W u (pre.foldl step a0))/\Boxed W (w.heap.size+1) 87 (Value.func (Fn.func 53) #[] #[])/\Below w.heap.size w W) /\
    ∃ B8,W.heap[B8]? = some (.cells #[sv x.2.1,sv x.2.2] 32 (0,0))/\W0.heap.size+2<=B8 /\
    a'={ tmps:=#[Value.func (Fn.func gf) #[] lb,Value.slice ad0 0 c0',Value.func (Fn.func 53) #[] #[],undef,Value.pointer (some ⟨w.heap.size,0,none⟩),Value.pointer (some ⟨w.heap.size+1,0,none⟩),Value.slice none 0 0,.int .i64 (x.1:Nat),Value.pointer (some ⟨B8,0,none⟩),Value.func (Fn.func gf) #[] lb,.int .i64 (x.1:Nat),.agg #[sv x.2.1,sv x.2.2],undef,undef,undef,undef,undef,undef],defers:=[] })
  ?hAx ?hassign ?hbody ?hdone (fun _ _ _ _ h _=>h.elim)
 case hit=>
  intro W hk hWs
  exact HIT.out W (hB0.trans (hk.below (by omega) fun _ _=>id))
 case hPt=>
  rintro A B C ⟨h1,h2⟩ ⟨h3,h4⟩
  refine⟨Nat.le_trans h1 h3,fun k hk hc=>?_⟩
  have e1:=h2 k hk hc
  refine(h4 k (by omega) ?_).trans e1
  rcases hc with hc | hc | hc | ⟨cs,f,hc⟩
  ·exact .inl hc
  ·exact .inr (.inl hc)
  ·exact .inr (.inr (.inl hc))
  ·exact .inr (.inr (.inr ⟨cs,f,by rw [e1];exact hc⟩))
 case hPt0=>
  rintro A B hk ⟨o,ho⟩
  refine⟨hk.size,fun k hlt hc=>hk.block k hlt ?_⟩
  rintro rfl
  rcases hc with hc | hc | hc | ⟨cs,f,hc⟩
  ·omega
  ·omega
  ·omega
  ·rw [ho] at hc;cases hc
 case hI=>
  rintro pre A B ⟨⟨u,h1,h2⟩,h3,h4⟩ hk0
  have hk:Keep (fun k=>k=W0.heap.size\/k=W0.heap.size+1) A B:=hk0.mono fun _ _ h=>h.elim False.elim id
  exact⟨⟨u,hk.boxed h1 (by omega),HIK.out _ _ _ _ h2 (hk.mono fun k _ h=>by omega)⟩,hk.boxed h3 (by omega),h4.trans (hk.below h4.size fun k hk=>by omega)⟩
 case hAx=>
  rintro pre x a' A B ⟨⟨⟨u,h1,h2⟩,h3,h4⟩,B8,h5,h6,rfl⟩ hk
  exact⟨⟨⟨u,hk.boxed h1 (by omega),HIK.out _ _ _ _ h2 (hk.mono fun k _ h=>by omega)⟩,hk.boxed h3 (by omega),h4.trans (hk.below h4.size fun k hk=>by omega)⟩,B8,hk.obj h5 (by omega),h6,rfl⟩
 case hassign=>
  rintro l pre ⟨i,⟨⟨x0,x1,x2⟩,⟨y0,y1,y2⟩⟩⟩ W hpx hlt ⟨⟨u,h1,h2⟩,h3,h4⟩
  clear hpx
  dsimp only [Y4,sv]
  have HX:=Lib.hid (And.intro h1 (And.intro h2 (And.intro h3 h4)))
  clear h1 h2 h3 h4
  gi_wp2
  obtain⟨h1,h2,h3,h4⟩:=HX.out
  have hka:∀ o S,Keep S W (W.alloc o):=fun o S=>(Keep.refl _ _).alloc _
  refine⟨⟨⟨u,h1⟩,hka _ _⟩,⟨⟨u,(hka _ (fun _=>False)).boxed h1 id,HIK.out _ _ _ _ h2 (hka _ _)⟩,(hka _ (fun _=>False)).boxed h3 id,h4.alloc h4.size _⟩,W.heap.size,World.alloc_heap_new W _,by omega,rfl⟩
 case hbody=>
  rintro l pre ⟨i,⟨⟨x0,x1,x2⟩,⟨y0,y1,y2⟩⟩⟩ a' W hpx hlt ⟨⟨⟨u,h1,h2⟩,h3,h4⟩,B8,h5,h6,rfl⟩
  obtain⟨ua,un,uc,rfl⟩:=HIS.out _ _ _ h2
  have hst:=HST.out W _ pre _ hpx (by omega) h4 h2
  dsimp only [sv] at hst h5 ⊢
  have c0:=h1.cell
  have c1:=h3.cell
  have c2:W.cell? ⟨B8,0,none⟩=some (.slice x0 x1 x2):=by simp [World.cell?,h5]
  have c3:W.cell? ⟨B8,1,none⟩=some (.slice y0 y1 y2):=by simp [World.cell?,h5]
  have HS:=Lib.hid hst
  have HX:=Lib.hid (And.intro h1 (And.intro h3 h4))
  clear hst h1 h2 h3 h4 h5
  gi_wp2_with (refine⟨trivial,?_⟩;gi_at_call 53;refine(callsIn_wide.2 HS.out).mono ?_;rintro e W1 ⟨u',rfl,hi1,hk1⟩
               obtain⟨va,vn,vc,rfl⟩:=HIS.out _ _ _ hi1
               have h1:Boxed W1 w.heap.size 60 (.slice ua un uc):=hk1.boxed HX.out.1 (fun h=>by have:=h.1;omega)
               have d0:=h1.cell
               have d1:=h1.frozen
               have HI1:=Lib.hid hi1
               have HK1:=Lib.hid hk1
               have HB1:=Lib.hid h1
               clear hi1 hk1 h1)
  have hkx:Keep (fun k=>k=w.heap.size) W1 (W1.setCell ⟨w.heap.size,0,none⟩ (.slice va vn vc)):=(Keep.refl (fun k=>k=w.heap.size) W1).setCell (p:=⟨w.heap.size,0,none⟩) (fun _=>rfl) _
  obtain⟨h1,h3,h4⟩:=HX.out
  have hkk:Keep (fun k=>k=w.heap.size\/zaB (w.heap.size+4) W k) W (W1.setCell ⟨w.heap.size,0,none⟩ (.slice va vn vc)):=(HK1.out.mono fun k _ h=>.inr h).setCell (p:=⟨w.heap.size,0,none⟩) (fun _=>.inl rfl) _
  refine⟨⟨⟨_,h1⟩,hkk⟩,⟨_,HB1.out.set _,?_⟩,hkk.boxed h3 (by rintro(e | ⟨e,_⟩)<;>omega),h4.trans (hkk.below h4.size fun k hk=>by rintro(e | ⟨e,_⟩)<;>omega)⟩
  rw [List.foldl_append]
  exact HIK.out _ _ _ _ HI1.out (hkx.mono fun k _ h=>.inl h)
 case hdone=>
  rintro W ⟨⟨u,h1,h2⟩,h3,h4⟩ hD
  obtain⟨ua,un,uc,rfl⟩:=HIS.out _ _ _ h2
  have hc:=h1.cell
  have HX:=Lib.hid (And.intro h2 h4)
  clear h1 h2 h3 h4
  gi_wp2
  refine⟨by simp,.inl ⟨_,_,rfl,run_takeDeferred hD,?_⟩⟩
  have hkD:Keep (fun k=>k=W0.heap.size) W (W.putObj W0.heap.size (.deferred none)):=(Keep.refl (fun k=>k=W0.heap.size) W).putObj (fun _=>rfl) _
  exact⟨_,results_tmp rfl _ _ _,_,rfl,HIK.out _ _ _ _ HX.out.1 (hkD.mono fun k _ h=>by omega),HX.out.2.trans (hkD.below HX.out.2.size fun k hk=>by omega)⟩
end Go.Proofs.YtopfkkogooocgaaGreat
