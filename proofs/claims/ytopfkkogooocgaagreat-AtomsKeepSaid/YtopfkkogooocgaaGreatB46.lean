import Derived.Test.YtopfkkogooocgaaGreatB29
import Derived.Test.YtopfkkogooocgaaGreatB39
set_option maxHeartbeats 16000000
set_option linter.unusedVariables false
set_option linter.unusedSimpArgs false
set_option maxRecDepth 100000
namespace Go.Proofs.YtopfkkogooocgaaGreat
open Go.RowKit
attribute [-go_sem] z7
def OV (base:Nat) (w:World) (u:Value) (v:List En):Prop:=
 ∃ xs,w.ownsRow base 37 3 u v.length xs/\∀ i (h:i<v.length),xs[i * 3]? = some (uV v[i].rep)/\xs[i * 3+1]? = some (uV v[i].max)/\∃ hv,xs[i * 3+2]? = some hv/\OwnR base w hv v[i].holes/\∀ b,hv.ownBlock=some b->u.ownBlock≠some b
theorem OV.nil (base:Nat) (w:World):OV base w (.slice none 0 0) []:=⟨[],World.ownsRow_nil _ _ _ _,fun i h=>absurd h (by simp)⟩
theorem OV.vo {base:Nat} {w:World} {u:Value} {v:List En} (h:OV base w u v):VO base w u v:=by
 obtain⟨xs,h1,h2⟩:=h
 refine⟨xs,h1,fun i hi=>?_⟩
 obtain⟨a,b,hv,c,d,_⟩:=h2 i hi
 exact⟨a,b,hv,c,d⟩
theorem OwnR.same {base:Nat} {w w':World} {v:Value} {l:List Iv} (h:OwnR base w v l) (hb:∀ k,k<w.heap.size->w'.heap[k]? = w.heap[k]?):OwnR base w' v l:=by
 refine⟨⟨h.1.1,?_⟩,h.2⟩
 rcases h.1.2 with h | ⟨g,cap,cur,e,hg,hc,r⟩
 ·exact .inl h
 ·exact .inr ⟨g,cap,cur,e,hg,(hb g (Array.getElem?_eq_some_iff.1 hc).1).trans hc,r⟩
theorem OV.keep {base:Nat} {w w':World} {u:Value} {v:List En} (h:OV base w u v) (hb:∀ k,k<w.heap.size->w'.heap[k]? = w.heap[k]?):OV base w' u v:=by
 obtain⟨xs,h1,h2⟩:=h
 refine⟨xs,⟨h1.1,?_⟩,fun i hi=>?_⟩
 ·rcases h1.2 with h | ⟨g,cap,cur,e,hg,hc,r⟩
  ·exact .inl h
  ·exact .inr ⟨g,cap,cur,e,hg,(hb g (Array.getElem?_eq_some_iff.1 hc).1).trans hc,r⟩
 ·obtain⟨a,b,hv,c,d,e⟩:=h2 i hi
  exact⟨a,b,hv,c,d.same hb,e⟩
theorem OV.push {base:Nat} {w w':World} {u u':Value} {es:List En} {e:En} {xs:List Value} {hv:Value} (h1:w.ownsRow base 37 3 u es.length xs)
 (h2:∀ i (h:i<es.length),xs[i * 3]? = some (uV es[i].rep)/\xs[i * 3+1]? = some (uV es[i].max)/\∃ hv,xs[i * 3+2]? = some hv/\OwnR base w hv es[i].holes/\∀ b,hv.ownBlock=some b->u.ownBlock≠some b)
 (hd:OwnR base w hv e.holes) (hs:∀ b,hv.ownBlock=some b->u.ownBlock≠some b) (ho:w'.ownsRow base 37 3 u' (es.length+1) (xs++[uV e.rep,uV e.max,hv])) (hg:w.grownBy w' u.ownBlock) (hu:u'.ownBlock=u.ownBlock\/u'.ownBlock=some w.heap.size):OV base w' u' (es++[e]):=by
 have hk:Keep (fun k=>u.ownBlock=some k) w w':=(Keep.refl _ w).grown hg fun k hk _=>hk
 have key:∀ {hv:Value} {l:List Iv},OwnR base w hv l->(∀ b,hv.ownBlock=some b->u.ownBlock≠some b)->OwnR base w' hv l/\∀ b,hv.ownBlock=some b->u'.ownBlock≠some b:=fun h hs=>⟨⟨hk.ownsRow h.1 hs,h.2⟩,fun b hb e=>by
  rcases hu with hu | hu
  ·exact hs b hb (hu.symm.trans e)
  ·rw [hu] at e
   cases e
   exact absurd (h.1.lt _ hb).2 (Nat.lt_irrefl _)⟩
 have hl:=h1.1
 refine⟨xs++[uV e.rep,uV e.max,hv],by simpa using ho,fun i hi=>?_⟩
 simp only [List.length_append,List.length_cons,List.length_nil,Nat.zero_add] at hi
 by_cases hlt:i<es.length
 ·obtain⟨a,b,hv,c,d,s⟩:=h2 i hlt
  rw [List.getElem_append_left hlt]
  refine⟨?_,?_,hv,?_,key d s⟩
  ·rw [List.getElem?_append_left (by omega)];exact a
  ·rw [List.getElem?_append_left (by omega)];exact b
  ·rw [List.getElem?_append_left (by omega)];exact c
 ·obtain rfl:i=es.length:=by omega
  rw [List.getElem_append_right (Nat.le_refl _)]
  simp only [Nat.sub_self,List.getElem_cons_zero]
  refine⟨?_,?_,hv,?_,key hd hs⟩
  ·rw [List.getElem?_append_right (by omega),show es.length * 3 - xs.length=0 by omega];rfl
  ·rw [List.getElem?_append_right (by omega),show es.length * 3+1 - xs.length=1 by omega];rfl
  ·rw [List.getElem?_append_right (by omega),show es.length * 3+2 - xs.length=2 by omega];rfl
theorem zrY {D:Nat->Nat->Prop} {w:World} {x:Value} (v:List En) (d:Dat D w x (vp v)) (hD:∀ b o,D b o->b<w.heap.size) (hr:RightV v) (hl:v.length<=1048576) (hh:∀ e ∈ v,e.holes.length<=10000) :
 Calls Tryz.prog 23 #[x] w fun e w'=>∃ u,e=.returned u/\Below w.heap.size w w'/\VO w.heap.size w' u (zi v):=by
 obtain⟨ad,cap,xs,rfl,hcap,hcm,h1,h2,h3,h4⟩:=dat_row (es:=v.map ec) (sz:=3) d (fun e he=>by obtain⟨x,_,rfl⟩:=List.mem_map.1 he;rfl)
 have hcell:∀(j:Nat) (hj:j<v.length),∃ b off vh,ad=some ⟨b,off,none⟩/\b<w.heap.size/\w.cell? ⟨b,off+j * 3,none⟩=some (.int .u64 (v[j].rep:Nat))/\w.cell? ⟨b,off+(j * 3+1),none⟩=some (.int .u64 (v[j].max:Nat))/\w.cell? ⟨b,off+(j * 3+2),none⟩=some vh/\Dat D w vh (rg v[j].holes):=fun j hj=>by
  have he:(v.map ec)[j]? = some (ec v[j]):=by rw [List.getElem?_map,List.getElem?_eq_getElem hj];rfl
  obtain⟨x0,a0,d0⟩:=h4 j _ 0 _ he rfl
  obtain⟨x1,a1,d1⟩:=h4 j _ 1 _ he rfl
  obtain⟨x2,a2,d2⟩:=h4 j _ 2 _ he rfl
  have e0:=(Rel.dat (ρ:=fun _=>0) (nb:=0) d0).v_inv
  have e1:=(Rel.dat (ρ:=fun _=>0) (nb:=0) d1).v_inv
  rw [e0] at a0
  rw [e1] at a1
  rcases h3 with⟨h,_⟩ | ⟨b,off,rfl,h⟩
  ·simp at h
   subst h
   simp at hj
  ·exact⟨b,off,x2,rfl,hD _ _ (h _ _ a0).1,(h _ _ a0).2,(h _ _ a1).2,(h _ _ a2).2,d2⟩
 rw [List.length_map] at hcap d ⊢
 have HC:=Lib.hid hcell
 have HDD:=Lib.hid hD
 have HB:=Lib.hid hr
 have HH:=Lib.hid hh
 unfold maxLen at hcm
 clear d hD hr hh h1 h2 h3 h4 hcell
 obtain⟨i0,hi0,hz0,hz1,hz2⟩:=info_parts zqZ
 have HI:=Lib.hid (And.intro hi0 (And.intro hz0 (And.intro hz1 hz2)))
 clear hi0 hz0 hz1 hz2
 go_enter Tryz.func23,Tryz.ntmps23
 go_wp2_with fail
 go_loopg [3,10] v.length (fun gh y x wr=>∃ j,j<=v.length/\gh=v.length - j/\x=.int .i64 j/\OV w.heap.size wr y (zi (v.take j))/\Below w.heap.size w wr)
 case atStart=>exact⟨0,Nat.zero_le _,rfl,rfl,OV.nil _ _,Below.refl _ _⟩
 case round=>
  obtain⟨j,hj,rfl,rfl,how,hbr⟩:=hrel
  have HO:=Lib.hid how
  have HBR:=Lib.hid hbr
  have hsr:=hbr.size
  clear how hbr
  by_cases hlt:j<v.length
  ·obtain⟨b,off,vh,rfl,hbl,c0,c1,c2,hdv⟩:=HC.out j hlt
   obtain⟨av,cv,rfl⟩:=zK hdv
   have hem:=List.getElem_mem hlt
   have hrd:∀ W,Below w.heap.size w W->RdR 0 W.heap.size W (.slice av v[j].holes.length cv) v[j].holes:=fun W hW=>je (hdv.mono (fun _ _ h=>h) fun b o x h hx=>(World.cell?_of_block (a:=⟨b,o,none⟩) (hW.block b (HDD.out b o h))).trans hx) (fun b o h=>Nat.lt_of_lt_of_le (HDD.out b o h) hW.size) (fun s hs=>by have:=NF.lo_ge (HB.out.1 _ hem).1 s hs;omega)
   have HRD:=Lib.hid hrd
   have hhl:=HH.out _ hem
   replace c0:=(World.cell?_of_block (a:=⟨b,off+j * 3,none⟩) (HBR.out.block b hbl)).trans c0
   replace c1:=(World.cell?_of_block (a:=⟨b,off+(j * 3+1),none⟩) (HBR.out.block b hbl)).trans c1
   replace c2:=(World.cell?_of_block (a:=⟨b,off+(j * 3+2),none⟩) (HBR.out.block b hbl)).trans c2
   rw [<-Nat.add_assoc] at c1 c2
   clear hdv hrd hem
   go_wp2_with fail
   refine(zr0 (rep:=v[j].rep) (max:=v[j].max) (l:=v[j].holes) (K:=kn v[j]) ⟨HB.out.1 _ (List.getElem_mem hlt),rfl⟩ (HRD.out _ (HBR.out.alloc hsr _)) (by omega)).mono ?_
   rintro e w3 ⟨u5,rfl,ho5,hb3⟩
   have hst:=yY hlt
   unfold kP at hst
   obtain⟨c,bb,hc⟩:∃ c bb,Qi v[j].rep (kn v[j])=(c,bb):=⟨_,_,rfl⟩
   rw [hc] at ho5 hst ⊢
   dsimp only at ho5 hst ⊢
   have HST:=Lib.hid hst
   have HCL:=Lib.hid (ZU v j)
   obtain⟨r,hr⟩:∃ r,r=c.rep:=⟨_,rfl⟩
   obtain⟨m,hm⟩:∃ m,m=c.max:=⟨_,rfl⟩
   obtain⟨k3,hk3⟩:∃ k3,k3=c.holes.length:=⟨_,rfl⟩
   obtain⟨a3,n3,rfl⟩:=ho5.val
   have HO5:=Lib.hid ho5
   rw [<-hr,<-hm,<-hk3]
   have HREP:=Lib.hid (And.intro hr (And.intro hm hk3))
   have hs3:=hb3.size
   simp only [World.size_alloc] at hs3
   have HB3:=Lib.hid (((Below.refl _ wr).alloc (Nat.le_refl _) _).trans (hb3.mono (by simp)))
   clear ho5 hst hc hb3 c0 c1 c2 hr hm hk3
   cases bb with
   | false=>
     go_wp2_with fail
     go_roundg (v.length - (j+1))
     case measure=>omega
     case rel=>
      refine⟨j+1,hlt,rfl,by simp,?_,(HBR.out.trans (HB3.out.mono hsr)).alloc (by omega) _⟩
      rw [HST.out]
      simp only [Bool.false_eq_true,if_false]
      exact HO.out.keep fun k hk=>(Below.heap_alloc _ _ _ (by omega)).trans (HB3.out.block k hk)
   | true=>
     go_wp2_with fail
     obtain⟨z5,hz5⟩:∃ z5,z5=(w3.alloc (.cells #[.int .u64 r,.int .u64 m,.slice a3 k3 n3] 37)).alloc (.cells #[.int .u64 r,.int .u64 m,.slice a3 k3 n3] 37):=⟨_,rfl⟩
     have hs5:z5.heap.size=w3.heap.size+2:=by rw [hz5];simp
     have hb35:∀ k,k<w3.heap.size->z5.heap[k]? = w3.heap[k]?:=fun k hk=>by rw [hz5];exact(Below.heap_alloc _ _ _ (by simp;omega)).trans (Below.heap_alloc _ _ _ hk)
     have hnb:z5.heap[w3.heap.size+1]? = some (.cells #[.int .u64 r,.int .u64 m,.slice a3 k3 n3] 37 (0,0)):=by rw [hz5];exact zrF _ _ _
     have hbz:Below w.heap.size w z5:=by rw [hz5];exact((HBR.out.trans (HB3.out.mono hsr)).alloc (by omega) _).alloc (by simp;omega) _
     have hn:=HCL.out
     obtain⟨xs',h15,h25⟩:=HO.out.keep (w':=z5) fun k hk=>(hb35 k (by omega)).trans (HB3.out.block k hk)
     have hown:=h15.lt
     have hu3:∀ k,u3.ownBlock=some k->k<wr.heap.size:=fun k hk=>by
      obtain⟨_,h16,_⟩:=HO.out
      exact(h16.lt k hk).2
     have hw5:Below w3.heap.size w3 z5:=by rw [hz5];exact((Below.refl _ _).alloc (Nat.le_refl _) _).alloc (by simp) _
     have hd5:OwnR (wr.heap.size+1) z5 (.slice a3 k3 n3) c.holes:=by
      have h:=HO5.out
      rw [<-HREP.out.2.2,World.size_alloc] at h
      exact h.below hw5 (Nat.le_refl _)
     have hsep:∀ b,(Value.slice a3 k3 n3).ownBlock=some b->u3.ownBlock≠some b:=fun b hb e=>by
      have:=(hd5.1.lt b hb).1
      have:=hu3 b e
      omega
     rw [<-hz5]
     refine Zi _ _ 30 rfl w.heap.size 37 i0 _ 3 40 Tryz.underlying30 HI.out.1 HI.out.2.1 HI.out.2.2.1 HI.out.2.2.2 rfl (by decide) _ _ xs' rfl h15 ⟨w3.heap.size+1,0,none⟩ 1 1 [.int .u64 r,.int .u64 m,.slice a3 k3 n3] rfl rfl (fun j u hj=>by
      rw [zh,Nat.zero_add]
      exact(zW hnb j u (by simpa using hj)).1) (fun u hu=>by simp at hu;rcases hu with rfl | rfl | rfl<;>rfl) (by unfold maxLen;omega) (by omega) (by omega) ?_
     intro v6 w6 ho6 hg6 _ hbl6
     rw [HREP.out.1,HREP.out.2.1] at ho6
     have HP6:=Lib.hid (OV.push h15 h25 (hd5.mono (by omega)) hsep ho6 hg6 hbl6)
     have HG6:=Lib.hid (hbz.grown hg6 hbz.size fun k hk=>(hown k hk).1)
     clear ho6 hg6 hbl6 h15 h25 hd5 hsep hw5 hnb hbz hz5 hb35 hn
     go_wp2_with fail
     go_roundg (v.length - (j+1))
     case measure=>omega
     case rel=>
      refine⟨j+1,hlt,rfl,by simp,?_,HG6.out⟩
      rw [HST.out]
      exact HP6.out
  ·obtain rfl:j=v.length:=by omega
   go_wp2_with fail
   refine bodyPost_ret (results_tmp rfl _ _ _) rfl ?_
   have h:=HO.out.vo
   rw [List.take_length] at h
   exact⟨_,rfl,HBR.out,h⟩
end Go.Proofs.YtopfkkogooocgaaGreat
