import Derived.Test.YtonhfknjcbakiaaGreatDoorB48
set_option maxHeartbeats 16000000
set_option linter.unusedVariables false
set_option linter.unusedSimpArgs false
set_option maxRecDepth 100000
namespace Go.Proofs.YtonhfknjcbakiaaGreatDoor
open Go.RowKit
theorem zl3 (a b:List En) (j:SmV a) (hb:SmV b):Cn Tryz.prog 71 [vp a,vp b] (vp (ks zn a b)):=by
 refine zt Tryz.func71 2 ?_
 refine pw ?_
 exact .d (zdc a b j hb)
theorem zkw (a b:List En) (j:SmV a) (hb:SmV b):Cn Tryz.prog 72 [vp a,vp b] (vp (ks y5 a b)):=by
 refine zt Tryz.func72 2 ?_
 refine pw ?_
 exact .d (zfC a b j hb)
theorem zkv (a b:List En) (j:SmV a) (hb:SmV b):Cn Tryz.prog 81 [vp a,vp b] (vp (ks zm a b)):=by
 refine zt Tryz.func81 2 ?_
 refine pw ?_
 exact .d (zdb a b j hb)
theorem knowUnion_c {C:Nat->List Nat} {R:List Nat} {n:Nat} (a b:List Fg) (j:Kn C R n a) (hb:Kn C R n b) (ok:OkX C R) (u:n<=40000):Cn Tryz.prog 22 [kp a,kp b] (.tup [kp (vh zn a b),.v .nilIface]):=by
 refine zt Tryz.func22 2 ?_
 refine pw ?_
 exact .d (Vk zn rfl 71 a b j hb ok u (fun x=>zl3 _ _ (j.at ok x) (hb.at ok x)))
theorem JP {C:Nat->List Nat} {R:List Nat} {n:Nat} (a b:List Fg) (j:Kn C R n a) (hb:Kn C R n b) (ok:OkX C R) (u:n<=40000):Cn Tryz.prog 23 [kp a,kp b] (.tup [kp (vh y5 a b),.v .nilIface]):=by
 refine zt Tryz.func23 2 ?_
 refine pw ?_
 exact .d (Vk y5 rfl 72 a b j hb ok u (fun x=>zkw _ _ (j.at ok x) (hb.at ok x)))
theorem vD {C:Nat->List Nat} {R:List Nat} {n:Nat} (a b:List Fg) (j:Kn C R n a) (hb:Kn C R n b) (ok:OkX C R) (u:n<=40000):Cn Tryz.prog 28 [kp a,kp b] (.tup [kp (vh zm a b),.v .nilIface]):=by
 refine zt Tryz.func28 2 ?_
 refine pw ?_
 exact .d (Vk zm rfl 81 a b j hb ok u (fun x=>zkv _ _ (j.at ok x) (hb.at ok x)))
theorem zir {op:Nat} (h:op<3):Qj op false false=false:=by
 obtain rfl | rfl | rfl:op=0\/op=1\/op=2:=by omega
 all_goals rfl
theorem YG {C:Nat->List Nat} {R:List Nat} {n:Nat} (a b:List Fg) (op:Nat) (ho:op<3) (A:Kn C R n a) (hb:Kn C R n b) (ok:OkX C R) (N:n<=20000):Cn Tryz.prog 40 [kp a,kp b,.v (.int .i64 op)] (kp (vh (Qj op) a b)):=by
 have E:=A.app hb
 have u:=E.ok12 ok (by omega)
 have w:=A.ok12 ok (by omega)
 have y:=hb.ok12 ok (by omega)
 have L:=xW (a++b)
 have I:=u.t
 have J:=A.l
 have K:=hb.l
 have G:=A.parts (zir ho) hb ok
 have F:=Kc (yy (Qj op) a b) G ok (by omega)
 refine zt Tryz.func40 3 ?_
 refine pw ?_
 rw [<-List.map_append]
 refine .c (VT (a++b) u.r u.z u.l u.t (Ya (a++b) u.r u.z u.l u.t u.i)) ?_
 refine pLoop.go (fun j=>j<=(zu (a++b)).length) (fun j=>[(9,.sl (((zu (a++b)).take j).map (fun s=>fc (Zx (Qj op) a b s))) (.r 51 2)),(10,.v (.int .i64 (j:Nat)))]) (fun _=>[]) (fun j=>(zu (a++b)).length - j) 0 [6,7,9,10,12,13,14,15,16,17,18,19] ?_ ?_ ?_
 ·exact Nat.zero_le _
 ·exact pd
 ·rintro j M
  refine pw ?_
  refine .i ?_ ?_<;>intro h<;>(try simp only [nrm_l] at h)<;>first | refine pw ?_ | exact pd
  ·have H:=Qr (Qj op) a b h
   refine .c (VR a (zu (a++b))[j].lo w.ik w.ok w.r w.s w.z) ?_
   refine .c (VR b (zu (a++b))[j].lo y.ik y.ok y.r y.s y.z) ?_
   refine .c (zcC (qc a (zu (a++b))[j].lo) (qc b (zu (a++b))[j].lo) op ho (A.at ok _) (hb.at ok _)) ?_
   exact⟨j+1,h,by omega,H.symm,rfl⟩
  ·have B:Cn Tryz.prog 97 [.sl (((zu (a++b)).take j).map (fun s=>fc (Zx (Qj op) a b s))) .sh] (kp (vh (Qj op) a b)):=by rw [YC (Qj op) a b (by omega)];exact F
   (first | exact .d (B) | exact .q (B))
theorem zds {C:Nat->List Nat} {R:List Nat} {n:Nat} (k:List Fg) (h:Kn C R n k) (ok:OkX C R) (a:n<=40000):Cn Tryz.prog 24 [kp k] (kp (zbx k)):=by
 show Cn Tryz.prog 24 [kp k] (kp (zL (jq k)))
 refine zt Tryz.func24 1 ?_
 refine pw ?_
 refine .c (ziJ k (h.ok12 ok (by omega))) ?_
 exact .d (zfn (jq k) (h.refine ok) ok (by omega))
structure Cr15 (a b:List Fg):Prop where
 ra:RightK a
 rb:RightK b
 ka:Kn (CKL [a,b]) (RKL [a,b]) 240 a
 kb:Kn (CKL [a,b]) (RKL [a,b]) 240 b
 ok:OkX (CKL [a,b]) (RKL [a,b])
end Go.Proofs.YtonhfknjcbakiaaGreatDoor
namespace Go.Proofs.YtonhfknjcbakiaaGreatDoor
open Go.RowKit
attribute [-go_sem] nat_succ zae zaf Vr
theorem zqr {C:Nat->Nat->Prop} {w0 w:World} {l:List Iv} {v:Value} (I:Nrm l) (hl:l.length<=1152921504606846976) (H:Dat C w0 v (rg l)) (B:∀ b o,C b o->b<w0.heap.size) (G:GL C w0) (hb:Below w0.heap.size w0 w) :
 Calls Tryz.prog 79 #[v] w fun e F=>e=.returned .nilIface/\Below w.heap.size w F:=by
 have E:∀ b o x,C b o->w0.cell? ⟨b,o,none⟩=some x->w.cell? ⟨b,o,none⟩=some x:=fun b o x h J=>(World.cell?_of_block (a:=⟨b,o,none⟩) (hb.block b (B b o h))).trans J
 refine(jP (D:=C) (zpJ l I hl) (G.mono (fun _ _ h=>h) E) (fun b o h=>Nat.lt_of_lt_of_le (B b o h) hb.size) rfl (fun i p j=>?_)).mono ?_
 ·match i,j with
  | 0,j=>cases j;exact H.mono (fun _ _ h=>h) E
  | i+1,j=>simp at j
 ·rintro e F ⟨u,rfl,y,A⟩
  have e:=(Rel.dat (ρ:=fun _=>0) (nb:=0) A).v_inv
  rw [e]
  exact⟨rfl,y⟩
theorem zoa {B:Nat->List Nat} {R:List Nat} {n m:Nat} (k:List Fg) (items:List Iv) (hk:Kn B R n k) (hi:Nrm items) (cj:items.length<=400000) (y:Kn B R m (zl5 k items)) (ok:OkX B R) (hn:n<=400000) (hm:m<=40000):Cn Tryz.prog 27 [kp k,rg items] (.tup [kp (znF k items),.v .nilIface]):=by
 refine yZ rfl (enters_of Tryz.func27 (by kernel_rfl) rfl) fun D w vs hG hD bn U=>?_
 have d0:Dat D w (vs.getD 0 undef) (kp k):=U 0 _ rfl
 have T:Dat D w (vs.getD 1 undef) (rg items):=U 1 _ rfl
 obtain⟨v0,ac⟩:∃ v0,v0=vs.getD 0 undef:=⟨_,rfl⟩
 obtain⟨v1,ad⟩:∃ v1,v1=vs.getD 1 undef:=⟨_,rfl⟩
 rw [<-ac] at d0
 rw [<-ad] at T
 obtain rfl:vs=#[v0,v1]:=by
  obtain⟨l⟩:=vs
  match l,bn with
  | [p,q],_=>
    simp at ac ad
    rw [ac,ad]
 clear ac ad bn U
 obtain⟨aa,ca,fs,rfl,bN,J,bf⟩:=kX d0 hD
 obtain⟨ai,ci,rfl⟩:=zK T
 have ck:=hk.l
 have bJ:=J.1
 have aY:=J.2.1
 unfold maxLen at aY
 rw [bN] at bJ
 have bw:=Lib.hid (fun W (M:Below w.heap.size w W)=>KH hk.r (hk.z (by omega)) d0 hD hG M)
 have bz:=Lib.hid (fun W (M:Below w.heap.size w W)=>zqr hi (by omega) T hD hG M)
 have aS:=Lib.hid J
 have aQ:=Lib.hid bf
 have aP:=Lib.hid T
 have aR:=Lib.hid hG
 have A:=Lib.hid hD
 have HK:=Lib.hid hk
 have HP:=Lib.hid y
 have bF:=Lib.hid hi
 obtain⟨i0,bg,bp,bq,br⟩:=info_parts Z9
 have HI:=Lib.hid (And.intro bg (And.intro bp (And.intro bq br)))
 clear d0 T J bf hG hD hk hi y bg bp bq br
 have ao:True:=trivial
 have aq:True:=trivial
 have ar:True:=trivial
 have bT:Tryz.prog.follows .mixedOrders=true:=by kernel_rfl
 go_enter_defers Tryz.func27,Tryz.ntmps27
 go_wp2_with (first
  | (go_at_call 54;have _t:=ao;refine(bw.out _ ((Below.refl _ _).alloc (Nat.le_refl _) _)).mono ?_;rintro e w1 ⟨rfl,aA⟩
     have aL:Boxed w1 w.heap.size 44 .nilIface:=(aA.block _ (by simp)).trans (World.alloc_heap_new w _)
     have ay:=Lib.hid aL
     have V:=Lib.hid (((Below.refl _ w).alloc (Nat.le_refl _) _).trans (aA.mono (by simp)))
     have bO:=aL.lt
     clear aA aL ao)
  | (go_at_call 78;refine(zdp _ _).mono ?_;rintro e Q ⟨⟨u,rfl⟩,rfl⟩)
  | (go_at_call 79;have _t:=aq;refine(bz.out _ V.out).mono ?_;rintro e S ⟨rfl,aB⟩
     have aM:Boxed S w.heap.size 44 .nilIface:=(aB.block _ ay.out.lt).trans ay.out
     have aT:=Lib.hid aM
     have aw:=Lib.hid (V.out.trans (aB.mono V.out.size))
     have bm:=aM.lt
     clear aB aM aq)
  | (at_make;have _t:=ar;refine wpList_make_full _ rfl _ _ 23 rfl (w.heap.size+1) 34 i0 _ 2 Tryz.underlying23 HI.out.1 HI.out.2.1 HI.out.2.2.1 .i64 .i64 _ _ k.length rfl rfl rfl rfl (by rw [HI.out.2.2.2];omega) (by unfold maxLen;omega) (by omega) ?_;intro w3 aK aH;rw [show (Value.agg #[.slice none 0 0,.slice none 0 0]).cells=#[.slice none 0 0,.slice none 0 0] from rfl,zqB] at aK;have ax:=Lib.hid (OutG.zeros (C:=D) (mb:=w.heap.size) aK);have aN:=Lib.hid (aw.out.grown aH aw.out.size fun j hj=>by cases hj);have az:=Lib.hid (aT.out.kept aH (by simp));have bP:=az.out.lt;clear aK aH ar;dsimp only [Act.put])
  | go_in)
 have bM:=bm
 generalize Q.heap.size=gb at ax bM ⊢
 go_loopg [20] k.length (fun g x wr=>∃ j,j<=k.length/\g=k.length - j/\x=.int .i64 j/\Boxed wr w.heap.size 44 .nilIface/\OutG D w.heap.size (w.heap.size+1) wr (.slice (some ⟨gb,0,none⟩) k.length k.length) (zoL k items j)/\Below w.heap.size w wr)
 case atStart=>exact⟨0,Nat.zero_le _,rfl,rfl,az.out,by rw [zp6];exact ax.out,aN.out⟩
 case round=>
  obtain⟨j,hj,rfl,rfl,aE,am,aW⟩:=hrel
  have aO:=Lib.hid aE
  have I:=Lib.hid am
  have G:=Lib.hid aW
  have bl:=aE.lt
  clear aE am aW ax az aN aT ay V aw bP bm bO
  by_cases ab:j<k.length
  ·have O:j<fs.length:=by omega
   obtain⟨bb,bt,rfl,aV,aj⟩:=aS.out.2.2 (by intro e;subst e;simp at O)
   obtain⟨c0,c1⟩:=aj j O
   obtain⟨d0,T⟩:=aQ.out j O
   replace c0:=(G.out.cell (p:=⟨bb,bt+j * 2,none⟩) aV).trans c0
   replace c1:=(G.out.cell (p:=⟨bb,bt+j * 2+1,none⟩) aV).trans c1
   have aG:=List.getElem_mem ab
   have bL:=HK.out.r _ aG
   have cg:k[j].items.length<=400000:=by have:=yv aG;have:=HK.out.m;omega
   have bH:=Lib.hid (zp5 (items:=items) ab)
   generalize k[j]=f at *
   generalize fs[j]=q at *
   obtain⟨af,cf,e0⟩:=zK d0
   obtain⟨av,cv,e1⟩:=xL T
   rw [e0] at c0 d0
   rw [e1] at c1 T
   have bj:=I.out.owns
   have ch:gb<wr.heap.size:=by
    cases hk0:k.length with
    | zero=>omega
    | succ c=>exact(bj gb (by rw [hk0];rfl)).2
   obtain⟨L,P⟩:∃ L,L=wr.alloc (.cells #[.slice af f.items.length cf,.slice av f.vec.length cv] 34):=⟨_,rfl⟩
   have ag:L.heap[wr.heap.size]? = some (.cells #[.slice af f.items.length cf,.slice av f.vec.length cv] 34 (0,0)):=by rw [P];exact World.alloc_heap_new wr _
   have aD:Below wr.heap.size wr L:=by rw [P];exact(Below.refl _ wr).alloc (Nat.le_refl _) _
   have bR:L.heap.size=wr.heap.size+1:=by rw [P];simp
   have bi:∀ W,Below L.heap.size L W->Calls Tryz.prog 80 #[.slice af f.items.length cf,.slice ai items.length ci] W fun e Q=>∃ E F,e=.returned (.slice E (qy y5 f.items items).length F)/\Below W.heap.size W Q/\Dat (DX D w.heap.size Q (.slice (some ⟨gb,0,none⟩) k.length k.length)) Q (.slice E (qy y5 f.items items).length F) (rg (qy y5 f.items items)):=fun W M=>by
    have Z:Below w.heap.size w W:=G.out.trans ((aD.mono (by omega)).trans (M.mono (by omega)))
    have hw:∀ b o x,D b o->w.cell? ⟨b,o,none⟩=some x->W.cell? ⟨b,o,none⟩=some x:=fun b o x h hx=>(World.cell?_of_block (a:=⟨b,o,none⟩) (Z.block b (A.out b o h))).trans hx
    refine(jP (D:=D) (zif f.items items bL.1 bF.out (by omega)) (aR.out.mono (fun _ _ h=>h) hw) (fun b o h=>Nat.lt_of_lt_of_le (A.out b o h) Z.size) rfl (fun i p y=>?_)).mono ?_
    ·match i,y with
     | 0,y=>cases y;exact d0.mono (fun _ _ h=>h) hw
     | 1,y=>cases y;exact aP.out.mono (fun _ _ h=>h) hw
     | i+2,y=>simp at y
    ·rintro e Q ⟨v,rfl,hb,U⟩
     obtain⟨E,F,rfl⟩:=zK U
     have bQ:=M.size
     refine⟨E,F,rfl,hb,U.mono (fun b o h=>⟨h.imp id fun h=>⟨by omega,h.2⟩,fun e=>?_⟩) fun _ _ _ _ h=>h⟩
     have ce:b=gb:=by
      cases hk0:k.length with
      | zero=>omega
      | succ c=>rw [hk0] at e;cases e;rfl
     rcases h with h | h
     ·have:=A.out b o h;omega
     ·omega
   have bE:=Lib.hid bi
   have bW:=Lib.hid ag
   have X:=Lib.hid aD
   have g0:=(zW ag 0 _ rfl).1
   have g1:=(zW ag 1 _ rfl).1
   have bB:=Lib.hid T
   clear d0 T aj aG e0 e1 bi ag aD
   go_wp2_with fail
   rw [<-P]
   have aX:Below L.heap.size L L.drew:=(Below.refl _ _).drew
   clear P
   refine Kg (Sw:=qe) 9 38 (fun w9=>Below L.heap.size L w9/\w9.cell? ⟨wr.heap.size,0,none⟩=some (.slice af f.items.length cf)/\w9.cell? ⟨wr.heap.size,1,none⟩=some (.slice av f.vec.length cv)) (by kernel_rfl) (by kernel_rfl) rfl ⟨aX,g0,g1⟩ ?_
   simp only [List.take_succ_cons,List.take_zero]
   refine Jz ?_
   refine V7 (fun u w9=>∃ E F,u=.slice E (qy y5 f.items items).length F/\Dat (DX D w.heap.size w9 (.slice (some ⟨gb,0,none⟩) k.length k.length)) w9 u (rg (qy y5 f.items items))) (fun u wa L h hk=>by obtain⟨E,F,e,h⟩:=h;exact⟨E,F,e,DX.keep h hk.size fun k N _=>hk.block k N id⟩) rfl ?_ ?_
   ·intro a2 S hc hk hr K hK
    have HK:=Lib.hid hK
    clear hK
    simp [Rds,zA,lk,Op.operands,Call.operands,RdEq] at hr
    go_simp
    refine(bE.out _ hc.1).mono ?_
    rintro e w3 ⟨E,F,rfl,hb,U⟩
    have aJ:Keep qe _ w3:=Keep.of_below' hb (Nat.le_refl _)
    exact HK.out _ _ aJ ⟨hc.1.trans (hb.mono hc.1.size),aJ.cell_some hc.2.1 id,aJ.cell_some hc.2.2 id⟩ ⟨E,F,rfl,U⟩
   dsimp only [List.nil_append,List.cons_append]
   refine Jz ?_
   refine V7 (fun u w9=>∃ E F,u=.agg #[.slice E (qy y5 f.items items).length F,.slice av f.vec.length cv]/\Dat (DX D w.heap.size w9 (.slice (some ⟨gb,0,none⟩) k.length k.length)) w9 (.slice E (qy y5 f.items items).length F) (rg (qy y5 f.items items))) (fun u wa L h hk=>by obtain⟨E,F,e,h⟩:=h;exact⟨E,F,e,DX.keep h hk.size fun k N _=>hk.block k N id⟩) rfl ?_ ?_
   ·intro a2 S hc hk hr K hK
    have HK:=Lib.hid hK
    clear hK
    simp [Rds,zA,lk,Op.operands,Call.operands,RdEq] at hr
    obtain⟨⟨_,⟨e1,e2⟩,⟨E,F,rfl⟩,ho⟩,e3,e4⟩:=hr
    go_simp
    exact HK.out _ _ (Keep.refl _ _) hc ⟨E,F,rfl,ho⟩
   dsimp only [List.nil_append,List.cons_append]
   intro S aF N
   simp only [finG,forall_eq,List.nil_append,List.cons_append,List.drop_succ_cons,List.drop_zero,List.drop_nil]
   simp only [Act.put,List.setIfInBounds_toArray,List.set_cons_succ,List.set_cons_zero]
   rintro _ ⟨_,_,rfl,_⟩ _ ⟨E,F,rfl,hu⟩
   have HU:=Lib.hid hu
   have Y:=Lib.hid aF.1
   have bU:=aF.1.size
   have H:=I.out.keep (w':=S) (by omega) fun b hb=>(Y.out.block b (by omega)).trans (X.out.block b hb)
   have ak:=zqq (items:=items) hj
   have bD:=Lib.hid ak
   have bG:=Lib.hid H
   obtain⟨xs,ah,be⟩:=id H
   obtain⟨xa,xb,ea,eb,-,-⟩:=be j (by omega)
   obtain⟨g,aU,bZ,ev,-,-,aI,-,-,-,-⟩:=ah.cases.resolve_left (fun h=>by omega)
   obtain⟨rfl,-,rfl⟩:gb=g/\k.length=(zoL k items j).length/\k.length=aU:=by simpa using ev
   have bX:S.cell? ⟨gb,j * 2,none⟩=some xa:=by
    have:=World.ownsRow.cells ah.1 (g:=gb) rfl (j * 2) xa ea
    rw [zh,Nat.zero_add] at this
    exact this
   have bY:S.cell? ⟨gb,j * 2+1,none⟩=some xb:=by
    have:=World.ownsRow.cells ah.1 (g:=gb) rfl (j * 2+1) xb eb
    rw [zh,Nat.zero_add] at this
    exact this
   have cb:S.frozen? ⟨gb,j * 2,none⟩=false:=by simp [World.frozen?,aI]
   have cc:S.frozen? ⟨gb,j * 2+1,none⟩=false:=by simp [World.frozen?,aI]
   clear hu aF N aX H ah be ea eb ev aI g0 g1 c0 c1 ak
   go_wp2_with fail
   have bK:Dat (DX D w.heap.size S (.slice (some ⟨gb,0,none⟩) k.length k.length)) S (.slice av f.vec.length cv) (vp f.vec):=bB.out.mono (fun b o h=>⟨.inl h,fun e=>by have:=(bj b e).1;have:=A.out b o h;omega⟩) fun b o x h hx=>(World.cell?_of_block (a:=⟨b,o,none⟩) ((Y.out.block b (by have:=A.out b o h;omega)).trans ((X.out.block b (by have:=A.out b o h;omega)).trans (G.out.block b (A.out b o h))))).trans hx
   have an:=OutG.put (f:=⟨qy y5 f.items items,f.vec⟩) bD.out bG.out ab HU.out bK (by omega)
   rw [<-bH.out] at an
   go_roundg (k.length - (j+1))
   case measure=>omega
   case rel=>
    refine⟨j+1,ab,rfl,by simp,?_,an,?_⟩
    ·exact(Below.heap_setCell _ _ _ _ (by show w.heap.size≠gb;omega)).trans ((Below.heap_setCell _ _ _ _ (by show w.heap.size≠gb;omega)).trans ((Y.out.block _ (by omega)).trans ((X.out.block _ bl).trans aO.out)))
    ·exact Below.setCell (Below.setCell (G.out.trans ((X.out.mono (by omega)).trans (Y.out.mono (by omega)))) (by show w.heap.size<=gb;omega) _) (by show w.heap.size<=gb;omega) _
  ·obtain rfl:j=k.length:=by omega
   have aZ:∀ W,Below wr.heap.size wr W->Calls Tryz.prog 24 #[.slice (some ⟨gb,0,none⟩) k.length k.length] W fun e Q=>∃ u,e=.returned u/\Below W.heap.size W Q/\Dat (DL D w.heap.size Q) Q u (kp (znF k items)):=fun W M=>by
    have bc:=I.out.dat (Nat.lt_succ_self _)
    rw [zqp] at bc
    have Z:Below w.heap.size w W:=G.out.trans (M.mono (by omega))
    have bh:∀ b o,DL D w.heap.size wr b o->b<wr.heap.size:=fun b o h=>h.elim (fun h=>by have:=A.out b o h;omega) And.right
    refine(jP (D:=DL D w.heap.size wr) (zds (zl5 k items) HP.out ok hm) (aR.out.mono (fun _ _ h=>.inl h) fun b o x h hx=>(World.cell?_of_block (a:=⟨b,o,none⟩) (Z.block b (A.out b o h))).trans hx) (fun b o h=>Nat.lt_of_lt_of_le (bh b o h) M.size) rfl (fun i p y=>?_)).mono ?_
    ·match i,y with
     | 0,y=>cases y;exact bc.mono (fun _ _ h=>h) fun b o x h hx=>(World.cell?_of_block (a:=⟨b,o,none⟩) (M.block b (bh b o h))).trans hx
     | i+1,y=>simp at y
    ·rintro e Q ⟨u,rfl,hb,U⟩
     have bQ:=M.size
     have bR:=hb.size
     refine⟨u,rfl,hb,U.mono (fun b o h=>?_) fun _ _ _ _ h=>h⟩
     rcases h with(h | h) | h
     ·exact .inl h
     ·exact .inr ⟨h.1,by omega⟩
     ·exact .inr ⟨by omega,h.2⟩
   have bA:=Lib.hid aZ
   clear aZ aQ I aP HP
   go_wp2_with (first
    | (go_at_call 24;refine(bA.out _ (Below.refl _ _)).mono ?_;rintro e w5 ⟨u5,rfl,aC,ba⟩
       have ae:Boxed w5 w.heap.size 44 .nilIface:=(aC.block _ bl).trans aO.out
       have c5:=ae.cell
       have f5:=ae.frozen
       have bI:=Lib.hid ae
       have bu:=Lib.hid (G.out.trans (aC.mono (by omega)))
       have bC:=Lib.hid ba
       clear aC ae ba)
    | go_in)
   refine leaves_cons (f := 77) (args:=#[.pointer (some ⟨w.heap.size,0,none⟩)]) (by simp) (by simp [go_sem]) ?_
   refine(JI ⟨w.heap.size,0,none⟩ _).mono ?_
   rintro e u' cm ⟨rfl,rfl,rfl⟩
   have bS:=(bI.out.set .nilIface).cell
   simp [Leaves,settle,results,Tryz.results27,go_sem,bS]
   refine⟨bu.out.setCell (Nat.le_refl _) _,.tup _ _ rfl fun j p y=>?_⟩
   match j,y with
   | 0,y=>
     cases y
     exact bC.out.mono (fun b o h=>h.imp id fun h=>⟨Nat.le_of_lt h.1,by simpa using h.2⟩) fun b o x h hx=>(World.cell?_of_block (a:=⟨b,o,none⟩) (Below.heap_setCell _ _ _ _ (by
      show b≠w.heap.size
      rcases h with h | h
      ·have:=A.out b o h;omega
      ·omega))).trans hx
   | 1,y=>cases y;exact .v _
   | j+2,y=>simp at y
end Go.Proofs.YtonhfknjcbakiaaGreatDoor
