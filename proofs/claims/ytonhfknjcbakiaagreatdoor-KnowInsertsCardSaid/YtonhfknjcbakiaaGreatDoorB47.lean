import Derived.Tactics2
import Derived.Defers
import Derived.Recover
import Derived.Laws.Pointers
import Derived.WalkLawsBesides
import Derived.Deep.Cut
import Derived.Test.YtonhfknjcbakiaaGreatDoorB21
import Derived.Test.YtonhfknjcbakiaaGreatDoorB46
set_option maxHeartbeats 16000000
set_option linter.unusedVariables false
set_option linter.unusedSimpArgs false
set_option maxRecDepth 100000
namespace Go.Proofs.YtonhfknjcbakiaaGreatDoor
open Go.RowKit
attribute [-go_sem] nat_succ
theorem Vw {w:World} {base a size n:Nat} {e:TypeId} {v:Value} {j:List Value} (h:w.ownsRow base e size v n j) (hb:a<=base):w.ownsRow a e size v n j:=⟨h.1,h.2.imp id fun⟨g,cap,cur,e1,hg,r⟩=>⟨g,cap,cur,e1,Nat.le_trans hb hg,r⟩⟩
theorem QD {B:Nat->List Nat} {R:List Nat} {n:Nat} (C:Nat->Nat->Prop) (k:List Fg) (vk:Value) (w:World) (hk:Kn B R n k) (ok:OkX B R) (hn:n<=100000) (rk:Dat C w vk (kp k)) (hC:∀ b o,C b o->b<w.heap.size) (hG:GL C w) :
 Calls Tryz.prog 97 #[vk] w fun e w'=>∃ v,e=.returned v/\Keep (fun b=>w.heap.size<=b) w w'/\Dat (fun b o=>C b o\/(w.heap.size<=b/\b<w'.heap.size)) w' v (kp (zL k)):=by
 obtain⟨aa,ca,fs,rfl,hl,aG,cq⟩:=kX rk hC
 have dw:=hk.l
 have HK:=Lib.hid hk
 have bp:=Lib.hid aG
 have cK:=Lib.hid cq
 have cM:=Lib.hid hG
 have dc:=aG.1
 have de:=aG.2.1
 unfold maxLen at de
 rw [hl] at dc
 clear rk aG cq hG hk
 obtain⟨mb,dy⟩:∃ mb,mb=w.heap.size - 1:=⟨_,rfl⟩
 go_enter Tryz.func97,Tryz.ntmps97
 go_wp2_with fail
 go_loopg [3,4] k.length (fun g xv xi wr=>∃ j,j<=k.length/\g=k.length - j/\xi=.int .i64 j/\OutG C mb w.heap.size wr xv (zL (k.take j))/\Keep (fun b=>w.heap.size<=b) w wr)
 case atStart=>exact⟨0,Nat.zero_le _,rfl,rfl,OutG.start _ _ _ _,Keep.refl _ w⟩
 case round=>
  obtain⟨j,S,rfl,rfl,aF,bQ⟩:=hrel
  obtain⟨o,ho⟩:∃ o,o=zL (k.take j):=⟨_,rfl⟩
  rw [<-ho] at aF
  obtain⟨ad,A,rfl,dx,cn⟩:=aF.shape
  unfold maxLen at cn
  have N:=Lib.hid aF
  have V:=Lib.hid bQ
  have HO:=Lib.hid ho
  have dB:=bQ.size
  by_cases ak:j<k.length
  ·have aY:j<fs.length:=by omega
   obtain⟨L,P,rfl,cY,bt⟩:=bp.out.2.2 (by intro e;subst e;simp at aY)
   obtain⟨c0,c1⟩:=bt j aY
   obtain⟨d0,d1⟩:=cK.out j aY
   replace c0:=(V.out.cell (p:=⟨L,P+j * 2,none⟩) (by show L<_;omega) (by show ¬ w.heap.size<=L;omega)).trans c0
   replace c1:=(V.out.cell (p:=⟨L,P+j * 2+1,none⟩) (by show L<_;omega) (by show ¬ w.heap.size<=L;omega)).trans c1
   have cW:¬(zi k[j].vec=[]\/k[j].items=[])->AddOk o ⟨k[j].items,zi k[j].vec⟩:=fun aL=>ho ▸ XK HK.out ok (by omega) ak aL
   have cr:zL (k.take (j+1))=yo o k[j]:=ho ▸ Zo ak
   have aX:=List.getElem_mem ak
   have bU:=HK.out.s _ aX
   have bM:=HK.out.r _ aX
   have Y:k[j].items.length<=100000:=by have:=yv aX;have:=HK.out.m;omega
   have bl:=(HK.out.take j).group ok
   rw [<-ho] at bl
   have dz:o.length<=100000:=by have:=bl.l;omega
   have cz:∀ g ∈ o,g.items.length<=100000:=fun g hg=>by have:=yv hg;have:=bl.m;omega
   have cF:∀ g ∈ o,g.vec.length<=1024/\∀ e ∈ g.vec,e.holes.length<=1048576:=fun g hg=>by
    obtain⟨x,hx,e⟩:=(jU (HK.out.take j).r).2.2 g (ho ▸ hg)
    have:=((HK.out.take j).ik x hx).canVec.bv ok.1 ok.2
    rw [<-e] at this
    exact⟨by have:=this.2.1;omega,fun e he=>by have:=this.2.2 e he;omega⟩
   have cE:(zi k[j].vec).length<=1024/\∀ e ∈ zi k[j].vec,e.holes.length<=1048576:=by
    have:=(HK.out.ik _ aX).canVec.bv ok.1 ok.2
    exact⟨by have:=this.2.1;omega,fun e he=>by have:=this.2.2 e he;omega⟩
   have bw:o.Pairwise fun f g=>ZH f.vec g.vec:=ho ▸ (vB (HK.out.take j).r).srt
   have cy:∀ g ∈ o,Nrm g.items:=fun g hg=>((vB (HK.out.take j).r).ok g (ho ▸ hg)).2.2.1
   generalize k[j]=f at *
   generalize fs[j]=q at *
   obtain⟨ai,ci,e0⟩:=zK d0
   obtain⟨av,cv,e1⟩:=xL d1
   rw [e0] at c0 d0
   rw [e1] at c1 d1
   have aU:∀ b o,C b o->b<wr.heap.size:=fun b o h=>by have:=hC b o h;omega
   have cg:GL C wr:=cM.out.mono (fun _ _ h=>h) fun b o x J hx=>V.out.cell_some hx (by have:=hC b o J;show ¬ w.heap.size<=b;omega)
   have bL:∀(x:Value) (p:PV),Dat C w x p->∀ W,Below wr.heap.size wr W->Dat C W x p:=fun x p h W Q=>h.mono (fun _ _ h=>h) fun b o x J hx=>(World.cell?_of_block (a:=⟨b,o,none⟩) (Q.block b (aU b o J))).trans (V.out.cell_some hx (by have:=hC b o J;show ¬ w.heap.size<=b;omega))
   have bK:∀ W,Below wr.heap.size wr W->GL C W:=fun W Q=>cg.mono (fun _ _ h=>h) fun b o x J hx=>(World.cell?_of_block (a:=⟨b,o,none⟩) (Q.block b (aU b o J))).trans hx
   have bq:Calls Tryz.prog 149 #[.slice av f.vec.length cv] wr fun e w'=>∃ a c,e=.returned (.slice a (zi f.vec).length c)/\Below wr.heap.size wr w'/\Dat (DX C mb w' (.slice ad o.length A)) w' (.slice a (zi f.vec).length c) (vp (zi f.vec)):=by
    refine(jP (D:=C) (Ka f.vec bM.2 bU.2.1 bU.2.2) (bK wr (Below.refl _ _)) aU rfl (fun i p hp=>?_)).mono ?_
    ·match i,hp with
     | 0,hp=>cases hp;exact bL _ _ d1 wr (Below.refl _ _)
     | i+1,hp=>simp at hp
    ·rintro e w' ⟨v,rfl,hb,hd⟩
     obtain⟨a,c,rfl⟩:=xL hd
     have cA:=N.out.owns
     refine⟨a,c,rfl,hb,hd.mono (fun b o h=>?_) fun _ _ _ _ h=>h⟩
     rcases h with h | h
     ·exact⟨.inl h,fun e=>by have:=(cA b e).1;have:=hC b o h;omega⟩
     ·exact⟨.inr ⟨by omega,h.2⟩,fun e=>by have:=(cA b e).2;omega⟩
   have aN:=Lib.hid bq
   have cb:=Lib.hid bK
   have bA:=Lib.hid bL
   have bz:=Lib.hid d0
   have aQ:=Lib.hid cr
   have cV:=Lib.hid cF
   have cU:=Lib.hid cE
   have cN:=Lib.hid cy
   have cO:=Lib.hid cz
   have cJ:=Lib.hid bM.1
   have bh:=Lib.hid aU
   have cP:=Lib.hid N.out.owns
   have cS:=Lib.hid bw
   have cf:∀ b o',C b o'->(Value.slice ad o.length A).ownBlock≠some b:=fun b _ h e=>by have:=(N.out.owns b e).1;have:=hC b _ h;omega
   have aO:=Lib.hid cf
   have HC:=Lib.hid hC
   clear bq bK bL d0 d1 cr cF cE cy cz bM bU aU bw cW aX bl cg e0 e1 bt cf hC ho aF bQ
   have ab:True:=trivial
   obtain⟨wo,dm⟩:∃ wo,wo=wr:=⟨_,rfl⟩
   subst dm
   by_cases h1:0<(zi f.vec).length
   ·have b1:(((zi f.vec).length:Int) == 0)=false:=beq_eq_false_iff_ne.2 (by omega)
    by_cases h2:0<f.items.length
    ·have b2:((f.items.length:Int) == 0)=false:=beq_eq_false_iff_ne.2 (by omega)
     have aL:¬(zi f.vec=[]\/f.items=[]):=fun e=>by
      rcases e with e | e
      ·rw [e] at h1;simp at h1
      ·rw [e] at h2;simp at h2
     have bF:=Lib.hid aL
     obtain⟨i,hi,q1,q2⟩:=Qo (zi f.vec) cS.out
     have cQ:=Lib.hid q1
     have cR:=Lib.hid q2
     have bC:=Lib.hid (Y8 (f:=⟨f.items,zi f.vec⟩) hi q1 q2)
     clear q1 q2 aL
     go_wp2_with (first
      | (go_at_call 149;have _t:=ab;refine aN.out.mono ?_;rintro e w3 ⟨a3,n3,rfl,O,aK⟩
         have c3:=(O.cell (p:=⟨L,P+j * 2,none⟩) (by show L<_;omega)).trans c0
         have ac:=Lib.hid O
         have cI:=Lib.hid aK
         have dk:=O.size
         clear O aK ab)
      | go_in)
     go_loopg [6] i (fun g x w2=>∃ a,a<=i/\g=i - a/\x=.int .i64 a/\Below w3.heap.size w3 w2)
     case atStart=>exact⟨0,Nat.zero_le _,rfl,rfl,Below.refl _ _⟩
     case round=>
      obtain⟨a,ha,rfl,rfl,ay⟩:=hrel
      have bj:=ac.out.trans (ay.mono dk)
      have aj:=N.out.keep (w':=wr) bj.size fun b hb=>bj.block b hb
      have co:=DX.keep cI.out ay.size fun b hb _=>ay.block b hb
      have c4:=(ay.cell (p:=⟨L,P+j * 2,none⟩) (by show L<_;omega)).trans c3
      have cG:=Lib.hid ay
      have M:=Lib.hid bj
      have aR:=Lib.hid aj
      have bi:=Lib.hid co
      have dl:=ay.size
      have bu:∀(a:Nat) (aI:a<o.length) (c:Int),zZ (zv o[a].vec) (zv (zi f.vec))=c->∀(aw:Option Addr) (ax:Nat),Dat (DX C mb wr (.slice ad o.length A)) wr (.slice aw o[a].vec.length ax) (vp o[a].vec)->∀ W,Below wr.heap.size wr W->Calls Tryz.prog 150 #[.slice aw o[a].vec.length ax,.slice a3 (zi f.vec).length n3] W fun e w'=>e=.returned (.int .i64 c)/\Below W.heap.size W w':=fun a aI c J aw ax hd W Q=>
       zhr c J (cV.out _ (List.getElem_mem aI)) cU.out (DX.keep hd Q.size fun b hb _=>Q.block b hb) (DX.keep bi.out Q.size fun b hb _=>Q.block b hb) aO.out (fun b o h=>by have:=bh.out b o h;have:=Q.size;omega) (cb.out W (M.out.trans (Q.mono M.out.size)))
      have bn:=Lib.hid bu
      clear ay bj aj co bu
      by_cases ch:a<i
      ·have aI:a<o.length:=by omega
       obtain⟨g,bG,bH,aw,ax,bI,rfl,bN,ah,x0,x1,da,db⟩:=aR.out.at aI
       obtain⟨c,J⟩:∃ c,zZ (zv o[a].vec) (zv (zi f.vec))=c:=⟨_,rfl⟩
       have dd:c<0:=by rw [<-J];exact cQ.out a aI ch
       have ar:=Lib.hid (bn.out a aI c J aw ax db)
       clear da db J ah x0
       generalize o[a]=oa at *
       go_wp2_with (first
        | (go_at_call 150;refine(ar.out _ (Below.refl _ _)).mono ?_;rintro e w5 ⟨rfl,F⟩;have ae:=Lib.hid F;clear F)
        | go_in)
       go_roundg (i - (a+1))
       case measure=>omega
       case rel=>exact⟨a+1,ch,rfl,by simp,cG.out.trans (ae.out.mono dl)⟩
      ·obtain rfl:a=i:=by omega
       by_cases Y:a<o.length
       ·obtain⟨g,bG,bH,aw,ax,bI,rfl,bN,ah,x0,x1,da,db⟩:=aR.out.at Y
        obtain⟨c,J⟩:∃ c,zZ (zv o[a].vec) (zv (zi f.vec))=c:=⟨_,rfl⟩
        have dd:¬ c<0:=by rw [<-J];exact cR.out a Y (Nat.le_refl _)
        have ar:=Lib.hid (bn.out a Y c J aw ax db)
        have bg:=Lib.hid J
        have bZ:=Lib.hid da
        have cL:=Lib.hid ah
        have cc:=Lib.hid x0
        clear da db J ah x0
        have aq:True:=trivial
        have aH:True:=trivial
        obtain⟨oa,bR⟩:∃ oa,oa=o[a]:=⟨_,rfl⟩
        rw [<-bR] at x1 ar bg bZ cc
        have aS:=Lib.hid bR
        clear bR
        by_cases hz:c=0
        ·go_wp2_with (first
          | (go_at_call 150;have _t:=aq;refine(ar.out _ (Below.refl _ _)).mono ?_;rintro e w5 ⟨rfl,F⟩
             have y1:=(F.cell (p:=⟨g,a * 2+1,none⟩) (World.block_lt_of_cell? wr ⟨g,a * 2+1,none⟩ x1)).trans x1
             have ae:=Lib.hid F;clear F aq)
          | (go_at_call 150;have _t:=aH;refine(ar.out _ ae.out).mono ?_;rintro e w6 ⟨rfl,F⟩;have U:=Lib.hid (ae.out.trans (F.mono ae.out.size));clear F aH)
          | go_in)
         have cZ:Below w6.heap.size w6 w6.drew:=(Below.refl _ _).drew
         have bO:g<wr.heap.size:=World.block_lt_of_cell? wr ⟨g,a * 2+1,none⟩ x1
         have z0:=(U.out.cell (p:=⟨g,a * 2,none⟩) bO).trans cc.out
         have z1:=(U.out.cell (p:=⟨g,a * 2+1,none⟩) bO).trans x1
         have z4:=(U.out.cell (p:=⟨L,P+j * 2,none⟩) (by show L<_;omega)).trans c4
         have bm:=U.out.size
         have cC:∀ W,Below w6.heap.size w6 W->Calls Tryz.prog 151 #[.slice bG oa.items.length bH,.slice ai f.items.length ci] W fun e w'=>∃ u,e=.returned u/\Below W.heap.size W w'/\Dat (DX C mb w' (.slice (some ⟨g,0,none⟩) o.length A)) w' u (rg (qy zn oa.items f.items)):=fun W Q=>by
          have bJ:=U.out.trans (Q.mono bm)
          have aT:=M.out.trans (bJ.mono M.out.size)
          have cx:oa ∈ o:=by rw [aS.out];exact List.getElem_mem Y
          refine zep (cN.out _ cx) cJ.out (by have:=cO.out _ cx;omega) (by omega) (DX.keep bZ.out bJ.size fun b hb _=>bJ.block b hb) ((bA.out _ _ bz.out W aT).mono (fun b o' h=>⟨.inl h,aO.out b o' h⟩) fun _ _ _ _ h=>h) (fun b hb=>by have:=(cP.out b hb).2;have:=aT.size;omega) aO.out (fun b o h=>by have:=bh.out b o h;have:=aT.size;omega) (by have:=aT.size;omega) (cb.out W aT)
         have cT:=Lib.hid cC
         clear cC
         have be:Tryz.prog.follows .mixedOrders=true:=by kernel_rfl
         obtain⟨y,bc⟩:∃ y,y=w6:=⟨_,rfl⟩
         subst bc
         refine Kg (Sw:=qe) 16 96 (fun w9=>Below y.heap.size y w9/\w9.cell? ⟨g,a * 2,none⟩=some (.slice bG oa.items.length bH)/\w9.cell? ⟨L,P+j * 2,none⟩=some (.slice ai f.items.length ci)) (by kernel_rfl) (by kernel_rfl) rfl ⟨cZ,z0,z4⟩ ?_
         simp only [List.take_succ_cons,List.take_zero]
         refine Jz ?_
         refine V7 (fun u w9=>Dat (DX C mb w9 (.slice (some ⟨g,0,none⟩) o.length A)) w9 u (rg (qy zn oa.items f.items))) (fun u wa wb h hk=>DX.keep h hk.size fun k aj _=>hk.block k aj id) rfl ?_ ?_
         ·intro a2 w2 J hk hr K hK
          have HK:=Lib.hid hK
          clear hK
          simp [Rds,zA,lk,Op.operands,Call.operands,RdEq] at hr
          go_simp
          refine(cT.out _ J.1).mono ?_
          rintro e w3 ⟨u,rfl,hb,hd⟩
          have bP:Keep qe _ w3:=Keep.of_below' hb (Nat.le_refl _)
          exact HK.out _ _ bP ⟨J.1.trans (hb.mono J.1.size),bP.cell_some J.2.1 id,bP.cell_some J.2.2 id⟩ hd
         dsimp only [List.nil_append,List.cons_append]
         refine Jz ?_
         refine V7 (fun u w9=>∃ au cu,u=.agg #[.slice au (qy zn oa.items f.items).length cu,.slice a3 (zi f.vec).length n3]/\Dat (DX C mb w9 (.slice (some ⟨g,0,none⟩) o.length A)) w9 (.slice au (qy zn oa.items f.items).length cu) (rg (qy zn oa.items f.items))) (fun u wa wb h hk=>by obtain⟨au,cu,e,h⟩:=h;exact⟨au,cu,e,DX.keep h hk.size fun k aj _=>hk.block k aj id⟩) rfl ?_ ?_
         ·intro a2 w2 J hk hr K hK
          have HK:=Lib.hid hK
          clear hK
          simp [Rds,zA,lk,Op.operands,Call.operands,RdEq] at hr
          obtain⟨⟨u,⟨e1,e2⟩,G⟩,e3,e4⟩:=hr
          obtain⟨au,cu,rfl⟩:=zK G
          go_simp
          exact HK.out _ _ (Keep.refl _ _) J ⟨au,cu,rfl,G⟩
         dsimp only [List.nil_append,List.cons_append]
         refine Jz ?_
         intro w2 aJ aj
         simp only [finG,forall_eq,List.nil_append,List.cons_append,List.drop_succ_cons,List.drop_zero,List.drop_nil]
         simp only [Act.put,List.setIfInBounds_toArray,List.set_cons_succ,List.set_cons_zero]
         rintro _ _ _ ⟨au,cu,rfl,G⟩
         have cH:=Lib.hid aJ.1
         have HU:=Lib.hid G
         have dA:=aJ.1.size
         have r0:=aJ.2.1
         have r1:=(aJ.1.cell (p:=⟨g,a * 2+1,none⟩) (by show g<_;omega)).trans z1
         have ah:w2.heap[g]? = some (.cells bI 34 (0,0)):=(aJ.1.block g (by omega)).trans ((U.out.block g bO).trans cL.out)
         have s0:w2.frozen? ⟨g,a * 2,none⟩=false:=by simp [World.frozen?,ah]
         have s1:w2.frozen? ⟨g,a * 2+1,none⟩=false:=by simp [World.frozen?,ah]
         have br:0<A:=by omega
         clear G aJ aj ah
         go_wp2_with fail
         go_roundg (k.length - (j+1))
         case measure=>omega
         case rel=>
          have aA:=U.out.trans (cH.out.mono U.out.size)
          have di:=(aR.out.keep aA.size fun b hb=>aA.block b hb).set Y HU.out br
          have cD:o[a].vec=zi f.vec:=by
           have:=bg.out
           rw [aS.out,hz] at this
           exact YU this
          have ct:(o.take a++(⟨qy zn oa.items f.items,o[a].vec⟩:Fg)::o.drop (a+1)).length=o.length:=by simp;omega
          have dh:(o.take a++(⟨qy zn oa.items f.items,o[a].vec⟩:Fg)::o.drop (a+1))[a]'(by omega)=⟨qy zn oa.items f.items,o[a].vec⟩:=by
           rw [List.getElem_append_right (by rw [List.length_take];exact Nat.min_le_left _ _)]
           simp [Nat.min_eq_left (Nat.le_of_lt Y)]
          have cX:(Value.slice (some ⟨g,0,none⟩) o.length A).ownBlock=some g:=by
           cases A with
           | zero=>omega
           | succ c=>rfl
          refine⟨j+1,ak,rfl,by simp,?_,?_⟩
          ·have I:=di.setV (i:=a) (a0:=.slice a3 (zi f.vec).length n3) ct (by omega) (by
            rw [dh]
            show Dat _ _ _ (vp o[a].vec)
            rw [cD]
            refine DX.keep bi.out (by simp;exact aA.size) fun b hb aL=>?_
            rw [Below.heap_setCell _ _ _ _ (fun e=>aL (by rw [cX];exact congrArg some e.symm))]
            exact aA.block b hb) br
           rw [aQ.out,yo,if_neg bF.out,bC.out,dif_pos Y,if_pos (by have:=bg.out;rw [aS.out,hz] at this;exact this)]
           rw [<-aS.out]
           rw [cD] at I
           exact I
          ·exact(((V.out.trans (Keep.of_below' M.out (Nat.le_refl _))).trans (Keep.of_below' aA (Nat.le_refl _))).setCell (fun _=>bN) _).setCell (fun _=>bN) _
        ·have dg:¬(c=0):=hz
         go_wp2_with (first
          | (go_at_call 150;have _t:=aq;refine(ar.out _ (Below.refl _ _)).mono ?_;rintro e w5 ⟨rfl,F⟩
             have y1:=(F.cell (p:=⟨g,a * 2+1,none⟩) (World.block_lt_of_cell? wr ⟨g,a * 2+1,none⟩ x1)).trans x1
             have ae:=Lib.hid F;clear F aq)
          | (go_at_call 150;have _t:=aH;refine(ar.out _ ae.out).mono ?_;rintro e w6 ⟨rfl,F⟩;have U:=Lib.hid (ae.out.trans (F.mono ae.out.size));clear F aH)
          | go_in)
         obtain⟨y,bc⟩:∃ y,y=w6:=⟨_,rfl⟩
         subst bc
         have az:Below wr.heap.size wr y:=U.out
         have bm:=az.size
         have cB:=M.out.size
         obtain⟨T,Z,aW⟩:=aR.out.keep az.size fun b hb=>az.block b hb
         have aM:=Z.2.1
         have X:=Lib.hid Z
         have bB:=Lib.hid aW
         have be:Tryz.prog.follows .mixedOrders=true:=by kernel_rfl
         have aE:∀ u ∈ T.take (a * 2),u.oneCell'=true:=fun u G=>Z.2.2 u (List.mem_of_mem_take G)
         have bT:∀ u ∈ T.drop (a * 2),u.oneCell'=true:=fun u G=>Z.2.2 u (List.mem_of_mem_drop G)
         have aB:∀ u ∈ [(.slice ai f.items.length ci:Value),.slice a3 (zi f.vec).length n3],u.oneCell'=true:=yF rfl rfl
         have aD:∀ g0,(some (⟨g,0,none⟩:Addr))=some ⟨g0,0,none⟩->∀ W,Below y.heap.size y W->∀ j u,T[j]? = some u->W.cell? ⟨g0,j,none⟩=some u:=fun g0 hg W Q j u hx=>by
          have h9:=World.ownsRow.cells X.out.1 (g:=g0) (by rw [hg];rfl) j u hx
          rw [zh,Nat.zero_add] at h9
          exact(Q.cell (p:=⟨g0,j,none⟩) (World.block_lt_of_cell? y ⟨g0,j,none⟩ h9)).trans h9
         have aC:=Lib.hid aD
         have z4:=(az.cell (p:=⟨L,P+j * 2,none⟩) (by show L<_;omega)).trans c4
         have I:∀(v:Value) (W:World),Below y.heap.size y W->W.ownsRow y.heap.size 34 2 v (0+a+1+(o.length - a)) ([]++T.take (a * 2)++[Value.slice ai f.items.length ci,Value.slice a3 (zi f.vec).length n3]++T.drop (a * 2)) ->
          OutG C mb w.heap.size W v (zL (k.take (j+1)))/\Keep (fun b=>w.heap.size<=b) w W:=fun v W Q ho=>by
          have aA:=az.trans (Q.mono bm)
          have hi:zL (k.take (j+1))=o.take a++⟨f.items,zi f.vec⟩::o.drop a:=by
           rw [aQ.out,yo,if_neg bF.out,bC.out]
           rw [dif_pos Y,if_neg (by have:=bg.out;rw [aS.out] at this;rw [this];exact dg)]
          refine⟨?_,((V.out.trans (Keep.of_below' M.out (Nat.le_refl _))).trans (Keep.of_below' aA (Nat.le_refl _)))⟩
          rw [hi]
          have hp:Dat (DX C mb y (.slice (some ⟨g,0,none⟩) o.length A)) y (.slice ai f.items.length ci) (rg f.items):=(bA.out _ _ bz.out y (M.out.trans (az.mono cB))).mono (fun b o' h=>⟨.inl h,aO.out b o' h⟩) fun _ _ _ _ h=>h
          have hq:Dat (DX C mb y (.slice (some ⟨g,0,none⟩) o.length A)) y (.slice a3 (zi f.vec).length n3) (vp (zi f.vec)):=DX.keep bi.out bm fun b hb _=>az.block b hb
          have ao:W.ownsRow y.heap.size 34 2 v (o.length+1) (T.take (a * 2)++[Value.slice ai f.items.length ci,Value.slice a3 (zi f.vec).length n3]++T.drop (a * 2)):=by
           have e1:0+a+1+(o.length - a)=o.length+1:=by omega
           rw [e1,List.nil_append] at ho
           exact ho
          refine OutG.insK (f:=⟨f.items,zi f.vec⟩) (Nat.le_of_lt Y) X.out.2.1 bB.out hp hq (fun h=>DX.new h (fun b o h=>by have:=bh.out b o h;omega) Q fun k hk=>(ao.lt k hk).1) ⟨Vw ao (by omega),?_,?_⟩
          ·simp [aM];omega
          ·intro u G
           rcases List.mem_append.1 G with G | G
           ·rcases List.mem_append.1 G with G | G
            ·exact X.out.2.2 u (List.mem_of_mem_take G)
            ·exact yF rfl rfl u G
           ·exact X.out.2.2 u (List.mem_of_mem_drop G)
         have aP:=Lib.hid I
         have ds:=Lib.hid aE
         clear I aD Z aW
         have aZ:∀ W:World,Below y.heap.size y W->(a=0/\(some (⟨g,0,none⟩:Addr))=none)\/∃ a',some (⟨g,0,none⟩:Addr)=some a'/\∀ j u,(T.take (a * 2))[j]? = some u->W.cell? (a'.add j)=some u:=fun W hB=>.inr ⟨_,rfl,fun j u h=>by
          rw [zh,Nat.zero_add]
          rw [List.getElem?_take] at h
          split at h
          ·exact aC.out g rfl W hB j u h
          ·cases h⟩
         have ba:∀ W:World,Below y.heap.size y W->(o.length - a=0/\(some (⟨g,a * 2,none⟩:Addr))=none)\/∃ a',some (⟨g,a * 2,none⟩:Addr)=some a'/\∀ j u,(T.drop (a * 2))[j]? = some u->W.cell? (a'.add j)=some u:=fun W hB=>.inr ⟨_,rfl,fun j u h=>by
          rw [zh]
          rw [List.getElem?_drop] at h
          exact aC.out g rfl W hB _ u h⟩
         have bD:=Lib.hid aZ
         have bE:=Lib.hid ba
         have du:¬(A=a):=by omega
         have cm:L<y.heap.size:=by omega
         have dv:a<=A:=by omega
         have dt:a<=o.length:=by omega
         clear aZ ba
         go_region_law_o (first
          | (refine yH (.tmp 77) (.tmp 80) 23 rfl rfl Tryz.underlying23 y.heap.size (.slice (some ⟨_,0,none⟩) 0 0) 0 [] rfl (zdz (by omega) (by first | exact World.alloc_heap_new _ _ | exact World.alloc_heap_new y _ | exact yw _ _ _ | exact yx _ _ _ | exact yw y _ _ | exact yx y _ _)) _ a _ (T.take (a * 2)) rfl (by simp [aM]<;>omega) (bD.out _ (by first | exact YR _ _ | exact XM _ _ _)) aE (by omega) (by simp<;>omega) ?_
             intro dn bf H E cj
             have b1:Below y.heap.size y bf:=by first | exact(YR y _).grown E (by simp<;>omega) (fun j S=>by simp [Value.ownBlock] at S;omega) | exact(XM y _ _).grown E (by simp<;>omega) (fun j S=>by simp [Value.ownBlock] at S;omega)
             have dq:=(b1.cell (p:=⟨L,P+j * 2,none⟩) (by show L<_;omega)).trans z4)
          | (refine yH (.tmp 81) (.tmp 89) 23 rfl rfl Tryz.underlying23 y.heap.size _ (0+a) ([]++T.take (a * 2)) rfl (by first | exact H | exact H.alloc _) _ 1 _ [Value.slice ai f.items.length ci,Value.slice a3 (zi f.vec).length n3] rfl rfl (.inr ⟨_,rfl,vI (vt := 34) (by first | exact World.alloc_heap_new bf _ | exact(E.block _ (by simp<;>omega) (by simp [Value.ownBlock]<;>omega)).trans (yw y _ _) | exact(E.block _ (by simp<;>omega) (by simp [Value.ownBlock]<;>omega)).trans (yx y _ _))⟩) aB (by omega) (by have:=E.size;simp at this ⊢<;>omega) ?_
             intro dp bX am af ck
             have b2:Below y.heap.size y bX:=by first | exact b1.grown af b1.size (fun j S=>(H.lt j S).1) | exact(b1.alloc b1.size _).grown af (by have:=b1.size;simp<;>omega) (fun j S=>(H.lt j S).1))
          | (refine yH (.tmp 90) (.tmp 93) 23 rfl rfl Tryz.underlying23 y.heap.size _ (0+a+1) ([]++T.take (a * 2)++[Value.slice ai f.items.length ci,Value.slice a3 (zi f.vec).length n3]) rfl am _ ((o.length - a)) _ (T.drop (a * 2)) rfl (by simp [aM]<;>omega) (bE.out _ b2) bT (by omega) b2.size ?_
             intro bW bY an ag aV
             have HR:=Lib.hid (aP.out bW bY (b2.grown ag b2.size fun j S=>(am.lt j S).1) an)
             clear an ag aV))
         all_goals (go_wp2_with fail;all_goals (go_roundg (k.length - (j+1));(case measure=>omega);(case rel=>exact⟨j+1,ak,rfl,by simp,HR.out.1,HR.out.2⟩)))
       ·obtain rfl:a=o.length:=by omega
        have aq:True:=trivial
        go_wp2_with fail
        obtain⟨y,bc⟩:∃ y,y=wr:=⟨_,rfl⟩
        subst bc
        have cB:=M.out.size
        obtain⟨T,Z,aW⟩:=aR.out
        have aM:=Z.2.1
        have X:=Lib.hid Z
        have bB:=Lib.hid aW
        have be:Tryz.prog.follows .mixedOrders=true:=by kernel_rfl
        have aE:∀ u ∈ T,u.oneCell'=true:=Z.2.2
        have bS:∀ u ∈ ([]:List Value),u.oneCell'=true:=fun u G=>by cases G
        have aB:∀ u ∈ [(.slice ai f.items.length ci:Value),.slice a3 (zi f.vec).length n3],u.oneCell'=true:=yF rfl rfl
        have aZ:∀ W:World,Below y.heap.size y W->(o.length=0/\ad=none)\/∃ a',ad=some a'/\∀ j u,T[j]? = some u->W.cell? (a'.add j)=some u:=fun W Q=>by
         rcases X.out.cases with⟨e,e2,rfl⟩ | ⟨g,ce,bI,e,_⟩
         ·cases ad with
          | none=>exact .inl ⟨e2,rfl⟩
          | some a=>exact .inr ⟨a,rfl,fun j u h=>by simp at h⟩
         ·obtain⟨rfl,_,rfl⟩:ad=some ⟨g,0,none⟩/\o.length=o.length/\A=ce:=by simpa using e
          refine .inr ⟨_,rfl,fun j u hx=>?_⟩
          have h9:=World.ownsRow.cells X.out.1 (g:=g) rfl j u hx
          rw [zh,Nat.zero_add] at h9 ⊢
          exact(Q.cell (p:=⟨g,j,none⟩) (World.block_lt_of_cell? y ⟨g,j,none⟩ h9)).trans h9
        have ba:(0=0/\(if A=o.length then ad else Option.map (fun x=>x.add (o.length * 2)) ad)=none)\/∃ a',(if A=o.length then ad else Option.map (fun x=>x.add (o.length * 2)) ad)=some a':=by
         cases ad<;>simp
         split<;>simp
        have bD:=Lib.hid aZ
        have bE:=Lib.hid ba
        have I:∀(v:Value) (W:World),Below y.heap.size y W->W.ownsRow y.heap.size 34 2 v (0+o.length+1+0) ([]++T++[Value.slice ai f.items.length ci,Value.slice a3 (zi f.vec).length n3]++[]) ->
         OutG C mb w.heap.size W v (zL (k.take (j+1)))/\Keep (fun b=>w.heap.size<=b) w W:=fun v W Q ho=>by
         have hi:zL (k.take (j+1))=o.take o.length++⟨f.items,zi f.vec⟩::o.drop o.length:=by
          rw [aQ.out,yo,if_neg bF.out,bC.out,dif_neg (Nat.lt_irrefl _),List.take_length,List.drop_length]
         refine⟨?_,((V.out.trans (Keep.of_below' M.out (Nat.le_refl _))).trans (Keep.of_below' Q (Nat.le_refl _)))⟩
         rw [hi]
         have hp:Dat (DX C mb y (.slice ad o.length A)) y (.slice ai f.items.length ci) (rg f.items):=(bA.out _ _ bz.out y M.out).mono (fun b o' h=>⟨.inl h,aO.out b o' h⟩) fun _ _ _ _ h=>h
         have ao:W.ownsRow y.heap.size 34 2 v (o.length+1) (T.take (o.length * 2)++[Value.slice ai f.items.length ci,Value.slice a3 (zi f.vec).length n3]++T.drop (o.length * 2)):=by
          have e1:0+o.length+1+0=o.length+1:=by omega
          rw [e1,List.nil_append] at ho
          rw [List.take_of_length_le (by omega),List.drop_of_length_le (by omega)]
          exact ho
         refine OutG.insK (f:=⟨f.items,zi f.vec⟩) (Nat.le_refl _) X.out.2.1 bB.out hp bi.out (fun h=>DX.new h (fun b o h=>by have:=bh.out b o h;omega) Q fun k hk=>(ao.lt k hk).1) ⟨Vw ao (by omega),?_,?_⟩
         ·simp [aM];omega
         ·intro u G
          rcases List.mem_append.1 G with G | G
          ·rcases List.mem_append.1 G with G | G
           ·exact X.out.2.2 u (List.mem_of_mem_take G)
           ·exact yF rfl rfl u G
          ·exact X.out.2.2 u (List.mem_of_mem_drop G)
        have aP:=Lib.hid I
        have cm:L<y.heap.size:=by omega
        have z4:=c4
        clear I Z aW aZ ba
        go_region_law_o (first
         | (refine yH (.tmp 77) (.tmp 80) 23 rfl rfl Tryz.underlying23 y.heap.size (.slice (some ⟨_,0,none⟩) 0 0) 0 [] rfl (zdz (by omega) (by first | exact World.alloc_heap_new _ _ | exact World.alloc_heap_new y _ | exact yw _ _ _ | exact yx _ _ _ | exact yw y _ _ | exact yx y _ _)) _ o.length _ T rfl (by simp [aM]<;>omega) (bD.out _ (by first | exact YR _ _ | exact XM _ _ _)) aE (by omega) (by simp<;>omega) ?_
            intro dn bf H E cj
            have b1:Below y.heap.size y bf:=by first | exact(YR y _).grown E (by simp<;>omega) (fun j S=>by simp [Value.ownBlock] at S;omega) | exact(XM y _ _).grown E (by simp<;>omega) (fun j S=>by simp [Value.ownBlock] at S;omega)
            have dq:=(b1.cell (p:=⟨L,P+j * 2,none⟩) (by show L<_;omega)).trans z4)
         | (refine yH (.tmp 81) (.tmp 89) 23 rfl rfl Tryz.underlying23 y.heap.size _ (0+o.length) ([]++T) rfl (by first | exact H | exact H.alloc _) _ 1 _ [Value.slice ai f.items.length ci,Value.slice a3 (zi f.vec).length n3] rfl rfl (.inr ⟨_,rfl,vI (vt := 34) (by first | exact World.alloc_heap_new bf _ | exact(E.block _ (by simp<;>omega) (by simp [Value.ownBlock]<;>omega)).trans (yw y _ _) | exact(E.block _ (by simp<;>omega) (by simp [Value.ownBlock]<;>omega)).trans (yx y _ _))⟩) aB (by omega) (by have:=E.size;simp at this ⊢<;>omega) ?_
            intro dp bX am af ck
            have b2:Below y.heap.size y bX:=by first | exact b1.grown af b1.size (fun j S=>(H.lt j S).1) | exact(b1.alloc b1.size _).grown af (by have:=b1.size;simp<;>omega) (fun j S=>(H.lt j S).1))
         | (refine yH (.tmp 90) (.tmp 93) 23 rfl rfl Tryz.underlying23 y.heap.size _ (0+o.length+1) ([]++T++[Value.slice ai f.items.length ci,Value.slice a3 (zi f.vec).length n3]) rfl am _ 0 _ ([]) rfl (by simp) (by rcases bE.out with h | ⟨a,h⟩;exact .inl h;exact .inr ⟨a,h,fun j u S=>by simp at S⟩) bS (by omega) b2.size ?_
            intro bW bY an ag aV
            have HR:=Lib.hid (aP.out bW bY (b2.grown ag b2.size fun j S=>(am.lt j S).1) an)
            clear an ag aV))
        all_goals (go_wp2_with fail;all_goals (go_roundg (k.length - (j+1));(case measure=>omega);(case rel=>exact⟨j+1,ak,rfl,by simp,HR.out.1,HR.out.2⟩)))
    ·have h0:f.items=[]:=by cases hf:f.items with | nil=>rfl | cons a l=>rw [hf] at h2;simp at h2
     have b2:((f.items.length:Int) == 0)=true:=by rw [h0];rfl
     have H0:=Lib.hid h0
     clear h0
     go_wp2_with (first
      | (go_at_call 149;have _t:=ab;refine aN.out.mono ?_;rintro e w3 ⟨a3,n3,rfl,O,aK⟩
         have c3:=(O.cell (p:=⟨L,P+j * 2,none⟩) (by show L<_;omega)).trans c0
         have ac:=Lib.hid O
         clear O aK ab)
      | go_in)
     go_roundg (k.length - (j+1))
     case measure=>omega
     case rel=>
      refine⟨j+1,ak,rfl,by simp,?_,V.out.trans (Keep.of_below' ac.out (Nat.le_refl _))⟩
      rw [aQ.out,yo,if_pos (.inr H0.out)]
      exact N.out.keep ac.out.size fun b hb=>ac.out.block b hb
   ·have h0:zi f.vec=[]:=by cases hf:zi f.vec with | nil=>rfl | cons a l=>rw [hf] at h1;simp at h1
    have b1:(((zi f.vec).length:Int) == 0)=true:=by rw [h0];rfl
    have H0:=Lib.hid h0
    clear h0
    go_wp2_with (first
     | (go_at_call 149;have _t:=ab;refine aN.out.mono ?_;rintro e w3 ⟨a3,n3,rfl,O,aK⟩
        have ac:=Lib.hid O
        clear O aK ab)
     | go_in)
    go_roundg (k.length - (j+1))
    case measure=>omega
    case rel=>
     refine⟨j+1,ak,rfl,by simp,?_,V.out.trans (Keep.of_below' ac.out (Nat.le_refl _))⟩
     rw [aQ.out,yo,if_pos (.inl H0.out)]
     exact N.out.keep ac.out.size fun b hb=>ac.out.block b hb
  ·obtain rfl:j=k.length:=by omega
   go_wp2_with fail
   refine bodyPost_ret (results_tmp rfl _ _ _) rfl ?_
   refine⟨_,rfl,V.out,?_⟩
   by_cases h0:1<=w.heap.size
   ·have h:=N.out.dat (by omega)
    rw [HO.out,List.take_length] at h
    refine(show Dat (DL C mb wr) wr _ (kp (zL k)) from by rw [HO.out,List.take_length];exact h).mono (fun b o h=>h.imp id fun h=>⟨by omega,h.2⟩) fun _ _ _ _ h=>h
   ·have cs:k=[]:=by
     cases k with
     | nil=>rfl
     | cons f l=>
       obtain⟨L,P,_,cY,_⟩:=bp.out.2.2 (by intro e;subst e;simp at hl)
       omega
    have dj:o=[]:=by rw [HO.out,cs];rfl
    subst dj
    subst cs
    exact zfP (by unfold maxLen;omega)
theorem Kc {B:Nat->List Nat} {R:List Nat} {n:Nat} (k:List Fg) (hk:Kn B R n k) (ok:OkX B R) (A:n<=100000):Cn Tryz.prog 97 [kp k] (kp (zL k)):=by
 refine yZ rfl (enters_of Tryz.func97 (by kernel_rfl) rfl) fun D w F u j a y=>?_
 rw [KB a]
 refine(QD D k _ w hk ok A (y 0 _ rfl) j u).mono ?_
 rintro e G ⟨v,rfl,hb,C⟩
 exact⟨v,rfl,hb.below (Nat.le_refl _) fun _ h E=>by omega,C⟩
theorem zdp (s:ByteArray) (w:World):Calls Tryz.prog 78 #[.string s,.nilIface] w fun e a=>(∃ u,e=.returned u)/\a=w:=by
 go_enter Tryz.func78,Tryz.ntmps78
 go_wp2
 go_end0
 exact⟨⟨_,rfl⟩,rfl⟩
theorem zod (s:ByteArray) (t:TypeId) (x:Value) (w:World):Calls Tryz.prog 83 #[.string s,.iface t x] w fun e a=>e=.returned ((.iface 150 (.agg #[.string s,.iface t x])))/\a=w:=by
 go_enter Tryz.func83,Tryz.ntmps83
 go_wp2
 refine bodyPost_ret (results_tmp rfl _ _ _) rfl ?_
 exact⟨rfl,rfl⟩
theorem zn9 (s:ByteArray) (t:TypeId) (x:Value) (w:World):Calls Tryz.prog 78 #[.string s,.iface t x] w fun e a=>e=.panicked [{ v:=.iface 147 (.agg #[(.iface 150 (.agg #[.string s,.iface t x]))]),recovered:=false }]/\a=w:=by
 go_enter Tryz.func78,Tryz.ntmps78
 go_wp2_with (first
  | (go_at_call 83;refine(zod _ _ _ _).mono ?_;rintro e a ⟨rfl,rfl⟩)
  | go_in)
 exact⟨rfl,rfl,rfl⟩
theorem JI (p:Addr) (w:World) :
 CallsD Tryz.prog 77 #[.pointer (some p)] .returning w fun e u y=>e=.returned (.tuple #[])/\u=.returning/\y=w:=by
 refine callsD_of_wpS Tryz.func77 rfl fun a A j=>?_
 apply wpS_seq
 apply wpS_region
 simp [wpOpsS,go_sem,recoverD,j,Tryz.ntmps77,Exit.thenS]
 refine wpS_of_wp ?_
 go_wp2
 cases a
 simp_all [bodyPostS,results,Tryz.results77]
theorem znO (rb:Nat) (y:Value) (j:TypeId) (u:Value) (a:List PanicEntry) (w:World) (hb:Boxed w rb 44 y) :
 CallsD Tryz.prog 77 #[.pointer (some ⟨rb,0,none⟩)] (.panicking ({ v:=.iface 147 (.agg #[.iface j u]),recovered:=false }::a)) w fun e H A=>
  e=.returned (.tuple #[])/\H=.panicking ({ v:=.iface 147 (.agg #[.iface j u]),recovered:=true }::a)/\Boxed A rb 44 (.iface j u)/\Keep (fun k=>k=rb) w A:=by
 have F:∀ w:World,(Instr.typeAssert (.iface 147 (.agg #[.iface j u])) 20 147 true).run Tryz.prog w=.ok (.tuple #[.agg #[.iface j u],.bool true]) w:=fun w=>by kernel_rfl
 have E:=hb.lt
 have B:=Lib.hid hb
 have I:=hb.cell
 have K:=hb.frozen
 refine callsD_of_wpS Tryz.func77 rfl fun C J G=>?_
 apply wpS_seq
 apply wpS_region
 simp [wpOpsS,go_sem,recoverD,G,Tryz.ntmps77,Exit.thenS]
 refine wpS_of_wp ?_
 clear hb
 go_wp2
 cases C
 simp_all [bodyPostS,results,Tryz.results77]
 exact⟨(B.out.set _).alloc _,((Keep.refl (fun k=>k=rb) w).setCell (fun _=>rfl) _).alloc _⟩
end Go.Proofs.YtonhfknjcbakiaaGreatDoor
namespace Go.Proofs.YtonhfknjcbakiaaGreatDoor
open Go.RowKit
end Go.Proofs.YtonhfknjcbakiaaGreatDoor
namespace Go.Proofs.YtonhfknjcbakiaaGreatDoor
open Go.RowKit
attribute [-go_sem] nat_succ
theorem BdK.of {k:List Fg} (h:RightK k) (hz:SzK k):BdK k:=by
 refine⟨fun f a=>⟨?_,fun e j=>Jg ((h f a).2.1 e j),by have:=(hz.2 f a).1;omega,by have:=(hz.2 f a).2.1;omega⟩,by have:=hz.1;omega⟩
 intro s hs
 have:=NF.lo_ge (h f a).1 s hs
 omega
theorem KH {C:Nat->Nat->Prop} {w0 w:World} {k:List Fg} {v:Value} (G:RightK k) (hz:SzK k) (K:Dat C w0 v (kp k)) (E:∀ b o,C b o->b<w0.heap.size) (J:GL C w0) (hb:Below w0.heap.size w0 w) :
 Calls Tryz.prog 54 #[v] w fun e I=>e=.returned .nilIface/\Below w.heap.size w I:=by
 have j:=BdK.of G hz
 have F:=Vh k j hz
 rw [yk ((ZN j).2 G)] at F
 have H:∀ b o x,C b o->w0.cell? ⟨b,o,none⟩=some x->w.cell? ⟨b,o,none⟩=some x:=fun b o x h L=>(World.cell?_of_block (a:=⟨b,o,none⟩) (hb.block b (E b o h))).trans L
 refine(jP (D:=C) F (J.mono (fun _ _ h=>h) H) (fun b o h=>Nat.lt_of_lt_of_le (E b o h) hb.size) rfl (fun i p y=>?_)).mono ?_
 ·match i,y with
  | 0,y=>cases y;exact K.mono (fun _ _ h=>h) H
  | i+1,y=>simp at y
 ·rintro e I ⟨u,rfl,A,B⟩
  have e:=(Rel.dat (ρ:=fun _=>0) (nb:=0) B).v_inv
  rw [e]
  exact⟨rfl,A⟩
theorem zl4 {D:Nat->Nat->Prop} {w:World} {v:Value} {k:List Fg} (h:Dat D w v (kp k)):∃ y j,v=.slice y k.length j/\k.length<=j/\j<=maxLen:=by
 unfold kp at h
 generalize A:k.map fc=es at h
 cases h with
 | sl a j sz es o b off u hc hz hm ha hsz hd hx=>
   have hl:es.length=k.length:=by rw [<-A];simp
   exact⟨a,j,by rw [hl],by omega,hm⟩
theorem zn6 (k:List Fg) (i r c:Nat) (hr:RightK k) (hz:SzK k) (hc:c<M64):Cn Tryz.prog 35 [kp k,.v (.int .u64 i),.v (.int .u64 r),.v (.int .u64 c)] (.tup [.v (.bool (hasK k i r c)),.v .nilIface]):=by
 refine yZ rfl (enters_of Tryz.func35 (by kernel_rfl) rfl) fun D w vs hG O M K=>?_
 have d0:=K 0 _ rfl
 have Y:=(Rel.dat (ρ:=fun _=>0) (nb:=0) (K 1 _ rfl)).v_inv
 have Z:=(Rel.dat (ρ:=fun _=>0) (nb:=0) (K 2 _ rfl)).v_inv
 have d3:=(Rel.dat (ρ:=fun _=>0) (nb:=0) (K 3 _ rfl)).v_inv
 obtain⟨Q,I⟩:∃ Q,Q=vs.getD 0 undef:=⟨_,rfl⟩
 obtain rfl:vs=#[Q,.int .u64 i,.int .u64 r,.int .u64 c]:=by
  obtain⟨l⟩:=vs
  match l,M with
  | [p,q,s,t],_=>
    simp at Y Z d3 I
    rw [I,Y,Z,d3]
 clear Y Z d3 M I
 have A:Dat D w Q (kp k):=d0
 obtain⟨ad,X,rfl,_,_⟩:=zl4 A
 have T:=Lib.hid (fun W (P:Below w.heap.size w W)=>KH hr hz A O hG P)
 have L:∀ W,Below w.heap.size w W->Calls Tryz.prog 46 #[.slice ad k.length X,.int .u64 i,.int .u64 r,.int .u64 c] W fun e w'=>e=.returned (.bool (hasK k i r c))/\Below W.heap.size W w':=fun W P=>by
  have hw:∀ b o x,D b o->w.cell? ⟨b,o,none⟩=some x->W.cell? ⟨b,o,none⟩=some x:=fun b o x h hx=>(World.cell?_of_block (a:=⟨b,o,none⟩) (P.block b (O b o h))).trans hx
  refine(jP (D:=D) (zoW k i r c hr hc hz) (hG.mono (fun _ _ h=>h) hw) (fun b o h=>Nat.lt_of_lt_of_le (O b o h) P.size) rfl (fun j p y=>?_)).mono ?_
  ·match j,y with
   | 0,y=>cases y;exact A.mono (fun _ _ h=>h) hw
   | 1,y=>cases y;exact .v _
   | 2,y=>cases y;exact .v _
   | 3,y=>cases y;exact .v _
   | j+4,y=>simp at y
  ·rintro e w' ⟨u,rfl,ab,ac⟩
   have e:=(Rel.dat (ρ:=fun _=>0) (nb:=0) ac).v_inv
   rw [e]
   exact⟨rfl,ab⟩
 have U:=Lib.hid L
 clear L d0 A K hG O
 have C:True:=trivial
 have E:True:=trivial
 go_enter_defers Tryz.func35,Tryz.ntmps35
 go_wp2_with (first
  | (go_at_call 54;have _t:=C;refine(T.out _ ((Below.refl _ _).alloc (Nat.le_refl _) _)).mono ?_;rintro e w1 ⟨rfl,G⟩
     have N:Boxed w1 w.heap.size 44 .nilIface:=(G.block _ (by simp)).trans (World.alloc_heap_new w _)
     have J:=Lib.hid N
     have F:=Lib.hid (((Below.refl _ w).alloc (Nat.le_refl _) _).trans (G.mono (by simp)))
     clear G N C)
  | (go_at_call 78;refine(zdp _ _).mono ?_;rintro e w' ⟨⟨u,rfl⟩,rfl⟩)
  | (go_at_call 46;have _t:=E;refine(U.out _ F.out).mono ?_;rintro e w2 ⟨rfl,H⟩
     have B:Boxed w2 w.heap.size 44 .nilIface:=(H.block _ J.out.lt).trans J.out
     have c2:=B.cell
     have f2:=B.frozen
     have V:=Lib.hid B
     have S:=Lib.hid (F.out.trans (H.mono F.out.size))
     clear H B E)
  | go_in)
 refine leaves_cons (f := 77) (args:=#[.pointer (some ⟨w.heap.size,0,none⟩)]) (by simp) (by simp [go_sem]) ?_
 refine(JI ⟨w.heap.size,0,none⟩ _).mono ?_
 rintro e u' af ⟨rfl,rfl,rfl⟩
 have ae:=(V.out.set .nilIface).cell
 simp [Leaves,settle,results,Tryz.results35,go_sem,ae]
 refine⟨S.out.setCell (Nat.le_refl _) _,.tup _ _ rfl fun j p y=>?_⟩
 match j,y with
 | 0,y=>cases y;exact .v _
 | 1,y=>cases y;exact .v _
 | j+2,y=>simp at y
def qB (a:List Fv):List Value:=a.flatMap fun f=>[sv f.1,sv f.2]
theorem Yo:∀(a:List Fv) (j:Nat) (u:Value),(qB a)[j]? = some u->∃ i,∃ h:i<a.length,(j=i * 2/\u=sv a[i].1)\/(j=i * 2+1/\u=sv a[i].2)
 | [],j,u,h=>by simp [qB] at h
 | f::a,0,u,h=>⟨0,by simp,.inl ⟨rfl,by simpa [qB] using h.symm⟩⟩
 | f::a,1,u,h=>⟨0,by simp,.inr ⟨rfl,by simpa [qB] using h.symm⟩⟩
 | f::a,j+2,u,h=>by
   obtain⟨i,hi,w⟩:=Yo a j u (by simpa [qB] using h)
   refine⟨i+1,by simp;omega,?_⟩
   rcases w with⟨e,e2⟩ | ⟨e,e2⟩
   ·exact .inl ⟨by omega,by simpa using e2⟩
   ·exact .inr ⟨by omega,by simpa using e2⟩
theorem Z5:∀(a:List Fv) (i:Nat) (h:i<a.length),(qB a)[i * 2]? = some (sv a[i].1)/\(qB a)[i * 2+1]? = some (sv a[i].2)
 | f::a,0,h=>⟨rfl,rfl⟩
 | f::a,i+1,h=>by
   have:=Z5 a i (by simpa using h)
   rw [show (i+1) * 2=i * 2+2 by omega]
   exact⟨by simpa [qB] using this.1,by simpa [qB] using this.2⟩
theorem jf (a:List Fv):(qB a).length=a.length * 2:=by
 induction a with
 | nil=>rfl
 | cons f a ih=>simp [qB] at ih ⊢;omega
theorem jg (j:List Fv):∀ u ∈ qB j,u.oneCell'=true:=fun u w=>by
 obtain⟨f,_,a⟩:=List.mem_flatMap.1 w
 simp at a
 rcases a with rfl | rfl<;>rfl
theorem Zn {G:Nat} {w W:World} {A:Option Addr} {B:Nat} {y:List Fv} (h:zeF G w A B y) (E:∀ b o x,b<G->w.cell? ⟨b,o,none⟩=some x->W.cell? ⟨b,o,none⟩=some x):(y.length=0/\A=none)\/∃ a,A=some a/\∀ j u,(qB y)[j]? = some u->W.cell? (a.add j)=some u:=by
 by_cases C:y=[]
 ·subst C
  cases A with
  | none=>exact .inl ⟨rfl,rfl⟩
  | some a=>exact .inr ⟨a,rfl,fun j u h=>by simp [qB] at h⟩
 ·obtain⟨b,J,rfl,hb,F⟩:=h.2.2 C
  refine .inr ⟨_,rfl,fun j u I=>?_⟩
  obtain⟨i,hi,H⟩:=Yo y j u I
  rw [zh]
  rcases H with⟨rfl,rfl⟩ | ⟨rfl,rfl⟩
  ·exact E _ _ _ hb (F i hi).1
  ·exact E _ _ _ hb (by rw [<-Nat.add_assoc];exact(F i hi).2)
theorem Jb {C:Array Oper} {rest:List Oper} {o:Oper} {a:Act} {w:World} {Q:Exit->Act->World->Prop} (s x:Operand) (t:TypeId) (J:o.guard=none)
 (ho:o.op=.call { callee:=.builtin .append,args:=#[s,x],argTypes:=#[t,t] }) (ht:Tryz.prog.underlying t=some (.slice 34)) (base:Nat) (v:Value) (n:Nat) (K:List Value) (hs:a.eval s=v) (F:w.ownsRow base 34 2 v n K)
 (H:Option Addr) (m c:Nat) (y:List Value) (T:a.eval x=.slice H m c) (hl:y.length=m * 2) (B:(m=0/\H=none)\/∃ a,H=some a/\∀ j u,y[j]? = some u->w.cell? (a.add j)=some u) (L:∀ u ∈ y,u.oneCell'=true) (I:n+m<=1073741824) (A:base<=w.heap.size)
 (h:∀ E G,G.ownsRow base 34 2 E (n+m) (K++y)->w.grownBy G v.ownBlock->(E.ownBlock=v.ownBlock\/E.ownBlock=some w.heap.size)->wpList Tryz.prog C Q rest (a.put o.dst E) G):wpList Tryz.prog C Q (o::rest) a w:=by
 have S:Region.wanted o (yielded C a.tmps)=true:=by simp [Region.wanted,J]
 unfold wpList
 rw [if_pos S]
 refine .inl ?_
 obtain⟨E,G,P,M,N,O⟩:=YI w t o.type ht base v n K F H m c y hl B L I A
 unfold Oper.wp execOp
 simp only [ho,resolve,invoke,builtin,Sem.run_bind,Sem.run_pure,Result.andThen_ok,List.map_toArray,List.map_cons,List.map_nil,hs,T,P]
 exact h E G M N O
theorem OutG.two {C:Nat->Nat->Prop} {mb base:Nat} {w0 w:World} {v:Value} {a b:List Fg} {fa j:List Fv} (A:fa.length=a.length) (B:j.length=b.length) (ho:w.ownsRow base 34 2 v (0+a.length+b.length) ([]++qB fa++qB j))
 (J:∀ b o,C b o->b<w0.heap.size) (hb:Below w0.heap.size w0 w) (H:w0.heap.size<=base)
 (K:∀ i (h:i<fa.length),Dat C w0 (sv fa[i].1) (rg (a[i]'(A ▸ h)).items)/\Dat C w0 (sv fa[i].2) (vp (a[i]'(A ▸ h)).vec)) (L:∀ i (h:i<j.length),Dat C w0 (sv j[i].1) (rg (b[i]'(B ▸ h)).items)/\Dat C w0 (sv j[i].2) (vp (b[i]'(B ▸ h)).vec)):OutG C mb base w v (a++b):=by
 have y:∀ {x:Value} {p:PV},Dat C w0 x p->Dat (DX C mb w v) w x p:=fun h=>h.mono (fun b o h=>⟨.inl h,fun e=>by have:=(ho.lt b e).1;have:=J b o h;omega⟩) fun b o x N Q=>(World.cell?_of_block (a:=⟨b,o,none⟩) (hb.block b (J b o N))).trans Q
 have hl:=jf fa
 have P:=jf j
 refine⟨qB fa++qB j,⟨by rw [List.length_append,<-Nat.zero_add a.length];exact ho,by simp;omega,fun u E=>?_⟩,fun i hi=>?_⟩
 ·rcases List.mem_append.1 E with E | E
  ·exact jg fa u E
  ·exact jg j u E
 ·by_cases M:i<a.length
  ·obtain⟨e1,e2⟩:=Z5 fa i (by omega)
   obtain⟨F,G⟩:=K i (by omega)
   have I:(a++b)[i]=a[i]:=List.getElem_append_left M
   rw [I]
   exact⟨_,_,by rw [List.getElem?_append_left (by omega)];exact e1,by rw [List.getElem?_append_left (by omega)];exact e2,y F,y G⟩
  ·have O:i - a.length<b.length:=by simp at hi;omega
   obtain⟨e1,e2⟩:=Z5 j (i - a.length) (by omega)
   obtain⟨F,G⟩:=L (i - a.length) (by omega)
   have I:(a++b)[i]=b[i - a.length]:=List.getElem_append_right (by omega)
   rw [I]
   exact⟨_,_,by rw [List.getElem?_append_right (by omega),hl,show i * 2 - fa.length * 2=(i - a.length) * 2 by omega];exact e1,by rw [List.getElem?_append_right (by omega),hl,show i * 2+1 - fa.length * 2=(i - a.length) * 2+1 by omega];exact e2,y F,y G⟩
end Go.Proofs.YtonhfknjcbakiaaGreatDoor
namespace Go.Proofs.YtonhfknjcbakiaaGreatDoor
open Go.RowKit
structure Rt12 (k:List Fg):Prop where
 f:vx k=true
 r:RightK k
 kn:Kn (CK k) (RK k) 240 k
 ok:OkX (CK k) (RK k)
theorem Rt12.o {k:List Fg} (h:Rt12 k):Ok12 (CK k) (RK k) k:=h.kn.ok12 h.ok (by omega)
def CKL (l:List (List Fg)) (r:Nat):List Nat:=l.flatMap fun k=>CK k r
def RKL (l:List (List Fg)):List Nat:=l.flatMap RK
theorem zam {l:List (List Fg)} (hl:l.length<=4) (h:∀ k ∈ l,vx k=true/\RightK k):OkX (CKL l) (RKL l):=by
 refine⟨fun r=>?_,?_⟩
 ·have a:(CKL l r).length<=l.length * 1512:=qL (n:=1512) fun k hk=>(X4 (h k hk).1 (h k hk).2).1 r
  omega
 ·have a:(RKL l).length<=l.length * 240:=qL (n:=240) fun k hk=>(X4 (h k hk).1 (h k hk).2).2.1
  omega
theorem Kn.all {l:List (List Fg)} {k:List Fg} (hk:k ∈ l) (h:vx k=true) (j:RightK k):Kn (CKL l) (RKL l) 240 k:=
 (Kn.few h j).mono (fun r x a=>List.mem_flatMap.2 ⟨k,hk,a⟩) (fun x a=>List.mem_flatMap.2 ⟨k,hk,a⟩) (Nat.le_refl _)
theorem Kn.at {C:Nat->List Nat} {R:List Nat} {n:Nat} {k:List Fg} (h:Kn C R n k) (ok:OkX C R) (x:Nat):SmV (qc k x):=(h.ik.at x).1.smv ok.c
theorem Kn.app {C:Nat->List Nat} {R:List Nat} {n m:Nat} {a b:List Fg} (j:Kn C R n a) (hb:Kn C R m b):Kn C R (n+m) (a++b):=by
 refine⟨j.r.app hb.r,fun f u=>(List.mem_append.1 u).elim (j.ik f) (hb.ik f),fun f u=>(List.mem_append.1 u).elim (j.s f) (hb.s f),?_,?_⟩
 ·have:=kK a b;have:=j.m;have:=hb.m;omega
 ·rw [List.length_append];have:=j.l;have:=hb.l;omega
theorem Kn.parts {C:Nat->List Nat} {R:List Nat} {n m:Nat} {f:Bool->Bool->Bool} (j:f false false=false) {a b:List Fg} (u:Kn C R n a) (hb:Kn C R m b) (ok:OkX C R):Kn C R (1+2 * (n+m)) (yy f a b):=by
 have A:=xW (a++b)
 have B:=YO (a++b)
 have E:=kK a b
 have F:=u.m
 have G:=hb.m
 have w:∀ g ∈ yy f a b,WV C R g.vec:=fun g y=>by
  obtain⟨s,_,rfl⟩:=List.mem_map.1 y
  exact IV.lat j (u.ik.at s.lo).1.iv (hb.ik.at s.lo).1.iv
 refine⟨xU u.r hb.r,fun f j=>(w f j).iv,fun f j=>(w f j).smv ok.c,?_,?_⟩
 ·unfold yy;rw [Zf];omega
 ·unfold yy;rw [List.length_map];omega
theorem Kn.do {C:Nat->List Nat} {R:List Nat} {n m:Nat} {f:Bool->Bool->Bool} (u:f false false=false) {a b:List Fg} (j:Kn C R n a) (hb:Kn C R m b) (ok:OkX C R):Kn C R (1+2 * (n+m)) (vh f a b):=(j.parts u hb ok).group ok
theorem Kn.canon {C:Nat->List Nat} {R:List Nat} {n:Nat} {k:List Fg} (h:Kn C R n k) (ok:OkX C R):Kn C R (1+2 * n) (zbx k):=(h.refine ok).group ok
noncomputable def Zx (f:Bool->Bool->Bool) (a b:List Fg) (s:Iv):Fg:=⟨[s],ks f (qc a s.lo) (qc b s.lo)⟩
theorem Qr (f:Bool->Bool->Bool) (a b:List Fg) {j:Nat} (h:j<(zu (a++b)).length):((zu (a++b)).take (j+1)).map (fun s=>fc (Zx f a b s))=((zu (a++b)).take j).map (fun s=>fc (Zx f a b s))++[fc (Zx f a b (zu (a++b))[j])]:=by
 rw [List.take_succ_eq_append_getElem h,List.map_append];rfl
theorem YC (f:Bool->Bool->Bool) (a b:List Fg) {j:Nat} (h:(zu (a++b)).length<=j):((zu (a++b)).take j).map (fun s=>fc (Zx f a b s))=(yy f a b).map fc:=by
 rw [List.take_of_length_le h];unfold yy;rw [List.map_map];rfl
def KQ:Nat->Code->Code
 | 0,c=>c
 | n+1,.seq _ c=>KQ n c
 | _,c=>c
theorem zjO {B:Nat->List Nat} {R:List Nat} {n:Nat} (f:Bool->Bool->Bool) (L:f false false=false) (op:FuncId) (a b:List Fg) (E:Kn B R n a) (hb:Kn B R n b) (ok:OkX B R) (O:n<=40000)
 (H:∀ x,Cn Tryz.prog op [vp (qc a x),vp (qc b x)] (vp (ks f (qc a x) (qc b x)))) :
 pW Tryz.prog Tryz.f70.ntmps True ((qx Tryz.prog Tryz.f70.ntmps [] (KQ 7 (xN Tryz.f70))).getD .sk) (jG [.t 6,.c 7 false 1] (.tup [kp (vh f a b),.v .nilIface])) ⟨[(0,kp a),(1,kp b),(2,.fn (.func op) [] []),(7,.bx 0 0),(8,kp (a++b)),(9,.sl [] .z)],[[.v .nilIface]]⟩:=by
 have F:=E.app hb
 have y:=F.ok12 ok (by omega)
 have u:=E.ok12 ok (by omega)
 have w:=hb.ok12 ok (by omega)
 have M:=xW (a++b)
 have K:=y.t
 have I:=E.parts L hb ok
 have G:=zfn (yy f a b) I ok (by omega)
 conv=>arg 4;cbv
 refine pw ?_
 refine .c (zdF (a++b) y.r y.z (by have:=y.l;omega) y.t) ?_
 refine pLoop.go (fun j=>j<=(zu (a++b)).length) (fun j=>[(9,.sl (((zu (a++b)).take j).map (fun s=>fc (Zx f a b s))) (.r 51 2)),(32,.v (.int .i64 (j:Nat)))]) (fun _=>[[.v .nilIface]]) (fun j=>(zu (a++b)).length - j) 0 [9,32] ?_ ?_ ?_
 ·exact Nat.zero_le _
 ·exact pd
 ·rintro j N
  refine pw ?_
  refine .i ?_ ?_<;>intro h<;>(try simp only [nrm_l] at h)<;>first | refine pw ?_ | exact pd
  ·have J:=Qr f a b h
   refine .c (zgU a (zu (a++b))[j].lo u.ik u.ok u.r u.s u.z) ?_
   refine .c (zgU b (zu (a++b))[j].lo w.ik w.ok w.r w.s w.z) ?_
   have A:=H (zu (a++b))[j].lo
   (first | refine .c (A) ?_ | refine .o (A) ?_)
   refine cutP.full rfl ?_ rfl ?_ ?_
   ·exact pd
   ·exact pd
   ·refine pw ?_
    exact⟨j+1,h,by omega,J.symm,rfl⟩
  ·have C:Cn Tryz.prog 74 [.sl (((zu (a++b)).take j).map (fun s=>fc (Zx f a b s))) .sh] (kp (vh f a b)):=by rw [YC f a b (by omega)];exact G
   (first | exact .d (C) | exact .q (C))
end Go.Proofs.YtonhfknjcbakiaaGreatDoor
namespace Go.Proofs.YtonhfknjcbakiaaGreatDoor
open Go.RowKit
attribute [-go_sem] nat_succ zae zaf Vr
theorem zeG (x y:Nat) (h:x+y<=80000) (w:World):(binOp .add 3 (.int .i64 (x:Nat)) (.int .i64 (y:Nat))).run Tryz.prog w=.ok (.int .i64 ((x+y:Nat):Int)) w:=by
 go_simp
 rw [IntKind.wrap_i64]
 omega
theorem Vk {B:Nat->List Nat} {R:List Nat} {n:Nat} (f:Bool->Bool->Bool) (hf:f false false=false) (op:FuncId) (a b:List Fg) (ha:Kn B R n a) (hb:Kn B R n b) (ok:OkX B R) (hn:n<=40000)
 (aL:∀ x,Cn Tryz.prog op [vp (qc a x),vp (qc b x)] (vp (ks f (qc a x) (qc b x)))):Cn Tryz.prog 70 [kp a,kp b,.fn (.func op) [] []] (.tup [kp (vh f a b),.v .nilIface]):=by
 refine yZ rfl (enters_of Tryz.func70 (by kernel_rfl) rfl) fun D w O hG hD aN hd=>?_
 have d0:Dat D w (O.getD 0 undef) (kp a):=hd 0 _ rfl
 have d1:Dat D w (O.getD 1 undef) (kp b):=hd 1 _ rfl
 have d2:Dat D w (O.getD 2 undef) (.fn (.func op) [] []):=hd 2 _ rfl
 obtain⟨v0,M⟩:∃ v0,v0=O.getD 0 undef:=⟨_,rfl⟩
 obtain⟨v1,N⟩:∃ v1,v1=O.getD 1 undef:=⟨_,rfl⟩
 rw [<-M] at d0
 rw [<-N] at d1
 have e2:O.getD 2 undef=.func (.func op) #[] #[]:=by
  generalize O.getD 2 undef=x at d2
  cases d2 with
  | fn f va vb fs cs h1 h2 h3 h4=>
    obtain rfl:va=#[]:=Array.eq_empty_of_size_eq_zero (by simpa using h1)
    obtain rfl:vb=#[]:=Array.eq_empty_of_size_eq_zero (by simpa using h2)
    rfl
 obtain rfl:O=#[v0,v1,.func (.func op) #[] #[]]:=by
  obtain⟨l⟩:=O
  match l,aN with
  | [p,q,s],_=>
    simp at M N e2
    rw [M,N,e2]
 clear d2 e2 M N aN hd
 obtain⟨aa,ca,fa,rfl,aj,A,da⟩:=kX d0 hD
 obtain⟨ab,cb,fb,rfl,ak,E,db⟩:=kX d1 hD
 have bn:=ha.l
 have bp:=hb.l
 have bg:=A.1
 have bh:=E.1
 have aA:=A.2.1
 have aB:=E.2.1
 unfold maxLen at aA aB
 rw [aj] at bg
 rw [ak] at bh
 have aR:=Lib.hid (fun W (hW:Below w.heap.size w W)=>KH ha.r (ha.z (by omega)) d0 hD hG hW)
 have aS:=Lib.hid (fun W (hW:Below w.heap.size w W)=>KH hb.r (hb.z (by omega)) d1 hD hG hW)
 have aX:=Lib.hid (fun W (hW:Below w.heap.size w W)=>Zn (W:=W) A fun b o x h hx=>(World.cell?_of_block (a:=⟨b,o,none⟩) (hW.block b h)).trans hx)
 have aY:=Lib.hid (fun W (hW:Below w.heap.size w W)=>Zn (W:=W) E fun b o x h hx=>(World.cell?_of_block (a:=⟨b,o,none⟩) (hW.block b h)).trans hx)
 have aT:=Lib.hid d0
 have aU:=Lib.hid d1
 have aV:=Lib.hid da
 have aW:=Lib.hid db
 have aZ:=Lib.hid hG
 have G:=Lib.hid hD
 have HA:=Lib.hid ha
 have HB:=Lib.hid hb
 have ba:=Lib.hid aj
 have bb:=Lib.hid ak
 have be:=Lib.hid aL
 obtain⟨i0,aH,aO,aP,aQ⟩:=info_parts Z9
 have I:=jf fa
 have J:=jf fb
 rw [aj] at I
 rw [ak] at J
 clear d0 d1 da db A E hG hD ha hb
 have bm:=zeG a.length b.length (by omega)
 have HI:=Lib.hid (And.intro aH (And.intro aO (And.intro aP aQ)))
 have ar:=Lib.hid (And.intro I J)
 clear aH aO aP aQ I J aL
 have S:True:=trivial
 have T:True:=trivial
 have U:True:=trivial
 have V:True:=trivial
 have X:True:=trivial
 go_enter_defers Tryz.func70,Tryz.ntmps70
 go_upto_region 6 with(first
  | (go_at_call 54;have _t:=S;refine(aR.out _ ((Below.refl _ _).alloc (Nat.le_refl _) _)).mono ?_;rintro e w1 ⟨rfl,ae⟩
     have an:Boxed w1 w.heap.size 44 .nilIface:=(ae.block _ (by simp)).trans (World.alloc_heap_new w _)
     have au:=Lib.hid an
     have Y:=Lib.hid (((Below.refl _ w).alloc (Nat.le_refl _) _).trans (ae.mono (by simp)))
     have bq:=an.lt
     clear ae an S)
  | (go_at_call 78;refine(zdp _ _).mono ?_;rintro e w' ⟨⟨u,rfl⟩,rfl⟩)
  | (go_at_call 54;have _t:=T;refine(aS.out _ Y.out).mono ?_;rintro e w2 ⟨rfl,af⟩
     have ao:Boxed w2 w.heap.size 44 .nilIface:=(af.block _ au.out.lt).trans au.out
     have bf:=Lib.hid ao
     have aq:=Lib.hid (Y.out.trans (af.mono Y.out.size))
     have br:=ao.lt
     clear af ao T)
  | (at_make;have _t:=U;refine wpList_make_own _ rfl _ _ 23 rfl (w.heap.size+1) 34 i0 _ 2 Tryz.underlying23 HI.out.1 HI.out.2.1 HI.out.2.2.1 .i64 .i64 _ (a.length+b.length) rfl rfl (by simp) (by rw [HI.out.2.2.2];omega) (by unfold maxLen;omega) (by omega) ?_
     intro w3 aI ag
     have L:=Lib.hid aI
     have K:=Lib.hid (aq.out.grown ag aq.out.size fun j hj=>by cases hj)
     have av:=Lib.hid (bf.out.kept ag (by simp))
     clear aI ag U
     dsimp only [Act.put])
  | (at_builtin;have _t:=V;refine Jb _ _ 23 rfl rfl Tryz.underlying23 (w.heap.size+1) _ 0 [] rfl L.out _ a.length ca (qB fa) rfl ar.out.1 (by rcases aX.out _ K.out with h | h;exact .inl ⟨by have:=h.1;omega,h.2⟩;exact .inr h) (jg fa) (by omega) (by have:=L.out.lt;have:=K.out.size;have:=av.out.lt;omega) ?_
     intro v4 w4 aJ ah bj
     have ad:=Lib.hid aJ
     have Z:=Lib.hid (K.out.grown ah K.out.size fun j hj=>by have:=(L.out.lt j hj).1;omega)
     have aw:=Lib.hid (av.out.kept ah fun e=>by have:=(L.out.lt _ e.symm).1;omega)
     clear aJ ah bj V
     dsimp only [Act.put])
  | (at_builtin;have _t:=X;refine Jb _ _ 23 rfl rfl Tryz.underlying23 (w.heap.size+1) _ (0+a.length) ([]++qB fa) rfl ad.out _ b.length cb (qB fb) rfl ar.out.2 (by rcases aY.out _ Z.out with h | h;exact .inl ⟨by have:=h.1;omega,h.2⟩;exact .inr h) (jg fb) (by omega) (by have:=aw.out.lt;omega) ?_
     intro v5 w5 aK ai bl
     have bc:=Lib.hid aK
     have ac:=Lib.hid (Z.out.grown ai Z.out.size fun j hj=>by have:=(ad.out.lt j hj).1;omega)
     have ax:=Lib.hid (aw.out.kept ai fun e=>by have:=(ad.out.lt _ e.symm).1;omega)
     clear aK ai bl X
     dsimp only [Act.put])
  | go_in)
 have bi:=OutG.two (C:=D) (mb:=w.heap.size) (base:=w.heap.size+1) (a:=a) (b:=b) ba.out bb.out bc.out G.out ac.out (by omega) aV.out aW.out
 have aC:=bi.dat (by omega)
 have bt:=ax.out.lt
 have y:∀ b o x,D b o->w.cell? ⟨b,o,none⟩=some x->w5.cell? ⟨b,o,none⟩=some x:=fun b o x h hx=>(World.cell?_of_block (a:=⟨b,o,none⟩) (ac.out.block b (G.out b o h))).trans hx
 have H:=ac.out
 have am:=‹∀(a:Act) (w:World),Code.wp _ _ _ a w->_›
 apply wp_region_lit
 unfold wpList
 rw [if_pos (by simp [Region.wanted])]
 refine .inl ?_
 unfold Oper.wp execOp
 simp only [Sem.run_pure]
 refine am _ _ ?_
 refine wp_mono (zih (nt:=Tryz.f70.ntmps) (D:=DL D w.heap.size w5) (by kernel_rfl) aZ.out _ ⟨H.os,H.tape,H.output,H.size,fun k hk _=>H.block k hk,fun b o h=>.inl h,y,fun b o h=>h.imp id fun h=>.inl (Nat.le_of_lt h.1),G.out⟩ (fun b o h=>h.elim (fun h=>by have:=G.out b o h;omega) And.right) (Nat.le_refl _) ax.out (.v _) rfl (fun o h=>h.elim (fun h=>by have:=G.out _ o h;omega) fun h=>by omega) rfl [(0,kp a),(1,kp b),(2,.fn (.func op) [] []),(7,.bx 0 0),(8,kp (a++b)),(9,.sl [] .z)] (fun t=>?_) (fun t=>?_) rfl (Q:=jG [.t 6,.c 7 false 1] (.tup [kp (vh f a b),.v .nilIface])) ?_) ?_
 ·rcases t with _ | _ | _ | _ | _ | _ | _ | _ | _ | _ | t
  ·exact .inr (aT.out.mono (fun _ _ h=>.inl h) y)
  ·exact .inr (aU.out.mono (fun _ _ h=>.inl h) y)
  ·exact .inr (.fn _ #[] #[] [] [] rfl rfl (fun _ _ h=>by simp at h) (fun _ _ h=>by simp at h))
  ·exact .inr (.und _)
  ·exact .inr (.und _)
  ·exact .inr (.und _)
  ·exact .inr (.und _)
  ·exact .inl ⟨rfl,rfl⟩
  ·exact .inr aC
  ·exact .inr (.sl none 0 0 [] .z 0 0 (fun _=>undef) (Nat.le_refl _) (fun _=>rfl) (Nat.zero_le _) (by simp) (fun i e h=>by simp at h) (fun j h=>by simp at h) (fun i e j p h=>by simp at h))
  ·exact .inr (.und _)
 ·rcases t with _ | _ | _ | _ | _ | _ | _ | _ | _ | _ | t<;>rfl
 ·exact zjO f hf op a b HA.out HB.out ok hn be.out
 ·intro e a1 w1 hQ
  obtain⟨he,aE,v,D',aM,F,ay,aD⟩:=zfM (P:=Tryz.prog) (fn:=Tryz.f70) (by kernel_rfl) hQ
  have az:Below w.heap.size w w1:=⟨F.os,F.tape,F.output,F.size,fun k hk=>F.block k hk fun h=>h⟩
  have aG:Dat (fun b o=>D b o\/(w.heap.size<=b/\b<w1.heap.size)) w1 v (.tup [kp (vh f a b),.v .nilIface]):=aD.mono (fun b o h=>by
   rcases F.new b o h with h1 | h1 | h1
   ·exact .inl h1
   ·exact .inr ⟨h1,ay b o h⟩
   ·exact h1.elim) (fun _ _ _ _ h=>h)
  obtain⟨tm,df⟩:=a1
  simp only [Act.put] at aE
  subst aE
  have aF:Leaves Tryz.prog Tryz.f70 tm (fun e w'=>∃ v,e=.returned v/\Below w.heap.size w w'/\Dat (fun b o=>D b o\/(w.heap.size<=b/\b<w'.heap.size)) w' v (.tup [kp (vh f a b),.v .nilIface])) [{ target:=.fn (.func 77) #[],args:=#[.pointer (some ⟨w.heap.size,0,none⟩)] }] .returning w1:=by
   refine leaves_cons (f := 77) (args:=#[.pointer (some ⟨w.heap.size,0,none⟩)]) (by simp) (by simp [go_sem]) ?_
   refine(JI ⟨w.heap.size,0,none⟩ _).mono ?_
   rintro e u' bu ⟨rfl,rfl,rfl⟩
   exact⟨v,aM,v,rfl,az,aG⟩
  rcases he with rfl | rfl<;>exact aF
theorem zog {D:Nat->Nat->Prop} {w:World}:Dat D w (.slice none 0 0) (.sl [] .sh):=
 .sl none 0 0 [] .sh 0 0 (fun _=>undef) (Nat.le_refl _) (fun _=>rfl) (Nat.zero_le _) (by simp) (fun i e h=>by simp at h) (fun j h=>by simp at h) (fun i e j p h=>by simp at h)
theorem znT {D:Nat->Nat->Prop} {w:World} {u v:Value} {p q:PV} (j:Dat D w u p) (y:Dat D w v q) (A:u.oneCell'=true) (B:v.oneCell'=true):Dat D w (.agg #[u,v]) (.agg [p,q]):=
 .agg _ _ rfl (fun i hi=>match i,hi with | 0,_=>A | 1,_=>B | i+2,hi=>by simp at hi;omega) fun i r a=>match i,a with
  | 0,a=>by cases a;exact j
  | 1,a=>by cases a;exact y
  | i+2,a=>by simp at a
def zot:ByteArray:=⟨#[108,101,102,116]⟩
def znM:ByteArray:=⟨#[114,105,103,104,116]⟩
def zou (s:ByteArray) (x:Nat × Int):PV:=.ifc 150 (.agg [.v (.string s),jS x.1 x.2])
theorem zmb {x:Nat × Int} (h:x.1≠0):jS x.1 x.2=.ifc 120 (.agg [.v (.int .i64 x.1),.v (.int .i64 x.2)]):=if_neg h
theorem zn3 {C:Nat->Nat->Prop} {w0 w:World} {k:List Fg} {v:Value} (A:BdK k) (hz:SzK k) (E:(ckK k).1≠0) (M:Dat C w0 v (kp k)) (H:∀ b o,C b o->b<w0.heap.size) (L:GL C w0) (hb:Below w0.heap.size w0 w) :
 Calls Tryz.prog 54 #[v] w fun e K=>e=.returned (.iface 120 (.agg #[.int .i64 (ckK k).1,.int .i64 (ckK k).2]))/\Below w.heap.size w K:=by
 have I:=Vh k A hz
 rw [zmb E] at I
 have J:∀ b o x,C b o->w0.cell? ⟨b,o,none⟩=some x->w.cell? ⟨b,o,none⟩=some x:=fun b o x h N=>(World.cell?_of_block (a:=⟨b,o,none⟩) (hb.block b (H b o h))).trans N
 refine(jP (D:=C) I (L.mono (fun _ _ h=>h) J) (fun b o h=>Nat.lt_of_lt_of_le (H b o h) hb.size) rfl (fun i p j=>?_)).mono ?_
 ·match i,j with
  | 0,j=>cases j;exact M.mono (fun _ _ h=>h) J
  | i+1,j=>simp at j
 ·rintro e K ⟨u,rfl,y,B⟩
  refine⟨?_,y⟩
  cases B with
  | ifc t x p h=>
    cases h with
    | agg vs cs hs h1 h=>
      have F:=(Rel.dat (ρ:=fun _=>0) (nb:=0) (h 0 _ rfl)).v_inv
      have G:=(Rel.dat (ρ:=fun _=>0) (nb:=0) (h 1 _ rfl)).v_inv
      obtain⟨l⟩:=vs
      match l,hs with
      | [p,q],_=>
        simp at F G
        rw [F,G]
theorem znG (a b:List Fg) (op:FuncId) (ra:RightK a) (za:SzK a) (hb:BdK b) (hz:SzK b) (hw:(ckK b).1≠0):Cn Tryz.prog 70 [kp a,kp b,.fn (.func op) [] []] (.tup [kp [],zou znM (ckK b)]):=by
 unfold zou
 rw [zmb hw]
 refine yZ rfl (enters_of Tryz.func70 (by kernel_rfl) rfl) fun D w B Z Y N S=>?_
 have d0:Dat D w (B.getD 0 undef) (kp a):=S 0 _ rfl
 have Q:Dat D w (B.getD 1 undef) (kp b):=S 1 _ rfl
 have X:Dat D w (B.getD 2 undef) (.fn (.func op) [] []):=S 2 _ rfl
 obtain⟨v0,y⟩:∃ v0,v0=B.getD 0 undef:=⟨_,rfl⟩
 obtain⟨v1,A⟩:∃ v1,v1=B.getD 1 undef:=⟨_,rfl⟩
 rw [<-y] at d0
 rw [<-A] at Q
 have e2:B.getD 2 undef=.func (.func op) #[] #[]:=by
  generalize B.getD 2 undef=x at X
  cases X with
  | fn f va vb fs cs h1 h2 h3 h4=>
    obtain rfl:va=#[]:=Array.eq_empty_of_size_eq_zero (by simpa using h1)
    obtain rfl:vb=#[]:=Array.eq_empty_of_size_eq_zero (by simpa using h2)
    rfl
 obtain rfl:B=#[v0,v1,.func (.func op) #[] #[]]:=by
  obtain⟨l⟩:=B
  match l,N with
  | [p,q,s],_=>
    simp at y A e2
    rw [y,A,e2]
 clear X e2 y A N S
 obtain⟨aa,ca,rfl,_,_⟩:=zl4 d0
 obtain⟨ab,cb,rfl,_,_⟩:=zl4 Q
 have T:=Lib.hid (fun W (hW:Below w.heap.size w W)=>KH ra za d0 Y Z hW)
 have U:=Lib.hid (fun W (hW:Below w.heap.size w W)=>zn3 hb hz hw Q Y Z hW)
 clear d0 Q Y Z hb hz ra za
 have C:True:=trivial
 have E:True:=trivial
 have F:True:=trivial
 go_enter_defers Tryz.func70,Tryz.ntmps70
 go_wp2_with (first
  | (go_at_call 54;have _t:=C;refine(T.out _ ((Below.refl _ _).alloc (Nat.le_refl _) _)).mono ?_;rintro e w1 ⟨rfl,H⟩
     have O:Boxed w1 w.heap.size 44 .nilIface:=(H.block _ (by simp)).trans (World.alloc_heap_new w _)
     have L:=Lib.hid O
     have G:=Lib.hid (((Below.refl _ w).alloc (Nat.le_refl _) _).trans (H.mono (by simp)))
     clear H O C)
  | (go_at_call 78;have _t:=F;refine(zdp _ _).mono ?_;rintro e w' ⟨⟨u,rfl⟩,rfl⟩;clear F)
  | (go_at_call 54;have _t:=E;refine(U.out _ G.out).mono ?_;rintro e w2 ⟨rfl,I⟩
     have P:Boxed w2 w.heap.size 44 .nilIface:=(I.block _ L.out.lt).trans L.out
     have V:=Lib.hid P
     have K:=Lib.hid (G.out.trans (I.mono G.out.size))
     clear I P E)
  | (go_at_call 78;refine(zn9 _ _ _ _).mono ?_;rintro e w' ⟨rfl,rfl⟩
     refine leaves_cons (f := 77) (args:=#[.pointer (some ⟨w.heap.size,0,none⟩)]) (by simp) (by simp [go_sem]) ?_
     refine(znO w.heap.size .nilIface _ _ _ _ V.out).mono ?_
     rintro e u' af ⟨rfl,rfl,ac,ad⟩
     have ae:=ac.cell
     have hs:=K.out.size
     have M:Below w.heap.size w af:=K.out.trans (ad.below hs (fun k hk e=>by omega))
     simp [Leaves,settle,results,Tryz.results70,go_sem,ae]
     refine⟨M,.tup _ _ rfl fun j p J=>?_⟩
     match j,J with
     | 0,J=>cases J;exact zog
     | 1,J=>cases J;exact .ifc _ _ _ (znT (.v _) (.ifc _ _ _ (znT (.v _) (.v _) rfl rfl)) rfl rfl)
     | j+2,J=>simp at J)
  | go_in)
theorem zos (a b:List Fg) (op:FuncId) (hb:BdK a) (hz:SzK a) (Y:(ckK a).1≠0):Cn Tryz.prog 70 [kp a,kp b,.fn (.func op) [] []] (.tup [kp [],zou zot (ckK a)]):=by
 unfold zou
 rw [zmb Y]
 refine yZ rfl (enters_of Tryz.func70 (by kernel_rfl) rfl) fun D w A X V H J=>?_
 have d0:Dat D w (A.getD 0 undef) (kp a):=J 0 _ rfl
 have M:Dat D w (A.getD 1 undef) (kp b):=J 1 _ rfl
 have N:Dat D w (A.getD 2 undef) (.fn (.func op) [] []):=J 2 _ rfl
 obtain⟨S,u⟩:∃ S,S=A.getD 0 undef:=⟨_,rfl⟩
 obtain⟨T,y⟩:∃ T,T=A.getD 1 undef:=⟨_,rfl⟩
 rw [<-u] at d0
 rw [<-y] at M
 have e2:A.getD 2 undef=.func (.func op) #[] #[]:=by
  generalize A.getD 2 undef=x at N
  cases N with
  | fn f va vb fs cs h1 h2 h3 h4=>
    obtain rfl:va=#[]:=Array.eq_empty_of_size_eq_zero (by simpa using h1)
    obtain rfl:vb=#[]:=Array.eq_empty_of_size_eq_zero (by simpa using h2)
    rfl
 obtain rfl:A=#[S,T,.func (.func op) #[] #[]]:=by
  obtain⟨l⟩:=A
  match l,H with
  | [p,q,s],_=>
    simp at u y e2
    rw [u,y,e2]
 clear N e2 u y H J
 obtain⟨aa,ca,rfl,_,_⟩:=zl4 d0
 obtain⟨ab,cb,rfl,_,_⟩:=zl4 M
 have K:=Lib.hid (fun W (hW:Below w.heap.size w W)=>zn3 hb hz Y d0 V X hW)
 clear d0 M V X hb hz
 have B:True:=trivial
 have Z:True:=trivial
 have ac:True:=trivial
 go_enter_defers Tryz.func70,Tryz.ntmps70
 go_wp2_with (first
  | (go_at_call 54;have _t:=B;refine(K.out _ ((Below.refl _ _).alloc (Nat.le_refl _) _)).mono ?_;rintro e w1 ⟨rfl,C⟩
     have I:Boxed w1 w.heap.size 44 .nilIface:=(C.block _ (by simp)).trans (World.alloc_heap_new w _)
     have L:=Lib.hid I
     have F:=Lib.hid (((Below.refl _ w).alloc (Nat.le_refl _) _).trans (C.mono (by simp)))
     clear C I B)
  | (go_at_call 78;refine(zn9 _ _ _ _).mono ?_;rintro e w' ⟨rfl,rfl⟩
     refine leaves_cons (f := 77) (args:=#[.pointer (some ⟨w.heap.size,0,none⟩)]) (by simp) (by simp [go_sem]) ?_
     refine(znO w.heap.size .nilIface _ _ _ _ L.out).mono ?_
     rintro e u' U ⟨rfl,rfl,O,P⟩
     have Q:=O.cell
     have hs:=F.out.size
     have G:Below w.heap.size w U:=F.out.trans (P.below hs (fun k hk e=>by omega))
     simp [Leaves,settle,results,Tryz.results70,go_sem,Q]
     refine⟨G,.tup _ _ rfl fun j p E=>?_⟩
     match j,E with
     | 0,E=>cases E;exact zog
     | 1,E=>cases E;exact .ifc _ _ _ (znT (.v _) (.ifc _ _ _ (znT (.v _) (.v _) rfl rfl)) rfl rfl)
     | j+2,E=>simp at E)
  | go_in)
end Go.Proofs.YtonhfknjcbakiaaGreatDoor
namespace Go.Proofs.YtonhfknjcbakiaaGreatDoor
open Go.RowKit
theorem zqB (z:Value) (n:Nat):(madeCells #[z,z] (n * 2)).toList=List.replicate (n * 2) z:=by
 apply List.ext_getElem?
 intro j
 by_cases u:j<n * 2
 ·have a:j % 2=0\/j % 2=1:=by omega
  rcases a with a | a<;>simp [madeCells,u,a]
 ·simp [madeCells,u]
theorem OutG.zeros {C:Nat->Nat->Prop} {mb base g n:Nat} {w:World} (ho:w.ownsRow base 34 2 (.slice (some ⟨g,0,none⟩) n n) n (List.replicate (n * 2) (.slice none 0 0))):OutG C mb base w (.slice (some ⟨g,0,none⟩) n n) (List.replicate n ⟨[],[]⟩):=by
 refine⟨List.replicate (n * 2) (.slice none 0 0),⟨by rw [List.length_replicate];exact ho,by simp,fun u j=>by rw [List.eq_of_mem_replicate j];rfl⟩,fun i hi=>?_⟩
 have a:i<n:=by simpa using hi
 refine⟨.slice none 0 0,.slice none 0 0,by rw [List.getElem?_replicate,if_pos (by omega)],by rw [List.getElem?_replicate,if_pos (by omega)],?_,?_⟩
 ·rw [List.getElem_replicate];exact zog
 ·rw [List.getElem_replicate];exact zog
theorem OutG.setW {C:Nat->Nat->Prop} {G base g:Nat} {w:World} {y:Nat} {o:List Fg} {l:List En} {a0:Value} {i n:Nat} (T:o.length=n) (h:OutG C G base w (.slice (some ⟨g,0,none⟩) n y) o) (hi:i<o.length) (M:Dat (DX C G w (.slice (some ⟨g,0,none⟩) n y)) w a0 (vp l)) (N:0<y) :
 OutG C G base (w.setCell ⟨g,i * 2+1,none⟩ a0) (.slice (some ⟨g,0,none⟩) n y) (o.take i++⟨o[i].items,l⟩::o.drop (i+1)):=by
 subst T
 obtain⟨X,H,P⟩:=h
 have A:(o.take i++(⟨o[i].items,l⟩:Fg)::o.drop (i+1)).length=o.length:=by simp;omega
 obtain⟨V,Y⟩:=H.1.stored (i * 2+1) a0
 have I:(Value.slice (some ⟨g,0,none⟩) o.length y).ownBlock=some g:=by
  cases y with
  | zero=>omega
  | succ c=>rfl
 have B:∀ {x:Value} {p:PV},Dat (DX C G w (.slice (some ⟨g,0,none⟩) o.length y)) w x p->Dat (DX C G (w.setCell ⟨g,i * 2+1,none⟩ a0) (.slice (some ⟨g,0,none⟩) o.length y)) (w.setCell ⟨g,i * 2+1,none⟩ a0) x p:=fun h=>
  DX.keep h (by simp) fun k hk K=>Below.heap_setCell _ _ _ _ fun e=>K (by rw [I];exact congrArg some e.symm)
 refine⟨X.set (i * 2+1) a0,⟨by rw [A];exact V,by rw [A,List.length_set];exact H.2.1,fun u L=>?_⟩,fun j O=>?_⟩
 ·rcases List.mem_or_eq_of_mem_set L with L | rfl
  ·exact H.2.2 u L
  ·exact zeu M
 ·have J:j<o.length:=by rw [A] at O;exact O
  obtain⟨a,b,c,d,e,k⟩:=P j J
  have U:=H.2.1
  by_cases F:j=i
  ·subst F
   have E:(o.take j++(⟨o[j].items,l⟩:Fg)::o.drop (j+1))[j]=⟨o[j].items,l⟩:=by
    rw [List.getElem_append_right (by rw [List.length_take];exact Nat.min_le_left _ _)]
    simp [Nat.min_eq_left (Nat.le_of_lt hi)]
   rw [E]
   refine⟨a,a0,?_,?_,B e,B M⟩
   ·rw [List.getElem?_set_ne (by omega)];exact c
   ·rw [List.getElem?_set_self (by omega)]
  ·have E:(o.take i++(⟨o[i].items,l⟩:Fg)::o.drop (i+1))[j]=o[j]:=by
    rcases Nat.lt_or_gt_of_ne F with S | Q
    ·rw [List.getElem_append_left (by simp;omega),List.getElem_take]
    ·rw [List.getElem_append_right (by simp;omega)]
     obtain⟨m,rfl⟩:∃ m,j=i+1+m:=⟨j - (i+1),by omega⟩
     simp only [List.length_take,Nat.min_eq_left (Nat.le_of_lt hi),show i+1+m - i=m+1 by omega,List.getElem_cons_succ,List.getElem_drop]
   rw [E]
   refine⟨a,b,?_,?_,B e,B k⟩
   ·rw [List.getElem?_set_ne (by omega)];exact c
   ·rw [List.getElem?_set_ne (by omega)];exact d
theorem OutG.put {C:Nat->Nat->Prop} {y base g n:Nat} {w:World} {a:Nat} {o:List Fg} {f:Fg} {A B:Value} {i:Nat} (L:o.length=n) (h:OutG C y base w (.slice (some ⟨g,0,none⟩) n a) o) (hi:i<n) (K:Dat (DX C y w (.slice (some ⟨g,0,none⟩) n a)) w A (rg f.items)) (hb:Dat (DX C y w (.slice (some ⟨g,0,none⟩) n a)) w B (vp f.vec)) (j:0<a) :
 OutG C y base ((w.setCell ⟨g,i * 2,none⟩ A).setCell ⟨g,i * 2+1,none⟩ B) (.slice (some ⟨g,0,none⟩) n a) (o.take i++f::o.drop (i+1)):=by
 subst L
 have F:(Value.slice (some ⟨g,0,none⟩) o.length a).ownBlock=some g:=by
  cases a with
  | zero=>omega
  | succ c=>rfl
 have E:Dat (DX C y (w.setCell ⟨g,i * 2,none⟩ A) (.slice (some ⟨g,0,none⟩) o.length a)) (w.setCell ⟨g,i * 2,none⟩ A) B (vp f.vec):=
  DX.keep hb (by simp) fun k hk G=>Below.heap_setCell _ _ _ _ fun e=>G (by rw [F];exact congrArg some e.symm)
 have J:=h.set hi K j
 have u:(o.take i++(⟨f.items,o[i].vec⟩:Fg)::o.drop (i+1)).length=o.length:=by simp;omega
 have H:=OutG.setW (i:=i) (l:=f.vec) (a0:=B) u J (by rw [u];exact hi) E j
 have ht:(o.take i).length=i:=by simp;omega
 have e1:(o.take i++(⟨f.items,o[i].vec⟩:Fg)::o.drop (i+1)).take i=o.take i:=by rw [List.take_append_of_le_length (by omega),List.take_of_length_le (by omega)]
 have e2:(o.take i++(⟨f.items,o[i].vec⟩:Fg)::o.drop (i+1)).drop (i+1)=o.drop (i+1):=by
  rw [List.drop_append,ht,List.drop_of_length_le (by omega),show i+1 - i=1 by omega];rfl
 have I:(o.take i++(⟨f.items,o[i].vec⟩:Fg)::o.drop (i+1))[i]'(by rw [u];exact hi)=⟨f.items,o[i].vec⟩:=by
  rw [List.getElem_append_right (by omega)]
  simp [ht]
 rw [e1,e2,I] at H
 exact H
def zoL (k:List Fg) (items:List Iv) (j:Nat):List Fg:=(zl5 k items).take j++List.replicate (k.length - j) ⟨[],[]⟩
theorem zqq {k:List Fg} {items:List Iv} {j:Nat} (a:j<=k.length):(zoL k items j).length=k.length:=by
 have:(zl5 k items).length=k.length:=List.length_map _
 unfold zoL
 rw [List.length_append,List.length_take,List.length_replicate]
 omega
theorem zp6 (k:List Fg) (items:List Iv):zoL k items 0=List.replicate k.length ⟨[],[]⟩:=rfl
theorem zqp (k:List Fg) (items:List Iv):zoL k items k.length=zl5 k items:=by
 have:(zl5 k items).length=k.length:=List.length_map _
 unfold zoL
 rw [List.take_of_length_le (by omega),Nat.sub_self]
 simp
theorem zp5 {k:List Fg} {items:List Iv} {j:Nat} (u:j<k.length):zoL k items (j+1)=(zoL k items j).take j++⟨qy y5 k[j].items items,k[j].vec⟩::(zoL k items j).drop (j+1):=by
 have hl:(zl5 k items).length=k.length:=List.length_map _
 have ht:((zl5 k items).take j).length=j:=by rw [List.length_take];omega
 have a:(zl5 k items)[j]'(by omega)=⟨qy y5 k[j].items items,k[j].vec⟩:=List.getElem_map _
 unfold zoL
 rw [List.take_succ_eq_append_getElem (by omega),a,List.append_assoc,List.take_append_of_le_length (by omega),List.take_of_length_le (l:=(zl5 k items).take j) (by omega)]
 congr 1
 rw [List.drop_append,List.drop_of_length_le (by omega),ht,List.drop_replicate,show k.length - j - (j+1 - j)=k.length - (j+1) by omega]
 rfl
end Go.Proofs.YtonhfknjcbakiaaGreatDoor
