import Derived.Test.YtopfkkogooocgaaGreatB32
set_option maxHeartbeats 16000000
set_option linter.unusedVariables false
set_option linter.unusedSimpArgs false
set_option maxRecDepth 100000
namespace Go.Proofs.YtopfkkogooocgaaGreat
open Go.RowKit Go.Maps
attribute [-go_sem] z7
theorem zkt (a1 a2:Option Addr) (n1 n2 c1 c2:Nat) (w:World):(Instr.index 142 (.agg #[.slice a1 n1 c1,.slice a2 n2 c2]) (.int .i64 0)).run Tryz.prog w=.ok (.slice a1 n1 c1) w:=by kernel_rfl
theorem zku (a1 a2:Option Addr) (n1 n2 c1 c2:Nat) (w:World):(Instr.index 142 (.agg #[.slice a1 n1 c1,.slice a2 n2 c2]) (.int .i64 1)).run Tryz.prog w=.ok (.slice a2 n2 c2) w:=by kernel_rfl
theorem zK {D:Nat->Nat->Prop} {w:World} {v:Value} {l:List Iv} (h:Dat D w v (rg l)):∃ ad cap,v=.slice ad l.length cap:=by
 have h':Dat D w v (.sl (l.map Q2) .sh):=h
 obtain⟨ad,cap,sz,b,off,f,e1,_⟩:=(Rel.dat (ρ:=fun _=>0) (nb:=0) h').inv_sl
 rw [List.length_map] at e1
 exact⟨ad,cap,e1⟩
theorem yg {w w':World} {b n:Nat} {D:DV} (h:w.ownsMap Tryz.prog 33 rV b n D) (hb:w'.heap[b]? = w.heap[b]?):w'.ownsMap Tryz.prog 33 rV b n D:=by
 obtain⟨es,clock,h1,r⟩:=h
 exact⟨es,clock,hb.trans h1,r⟩
theorem Qf {w:World} {b n:Nat} {D:DV} (h:w.ownsMap Tryz.prog 33 rV b n D) {r:Nat} (hr:r<zk) {s0 s1:Value} (he:D.atKey (kR r) (.held zP)=.held (.agg #[s0,s1])) :
 (Instr.lookup 119 (.map (some b)) (.int .u64 (r:Nat)) false).run Tryz.prog w=.ok (.agg #[s0,s1]) w:=by
 obtain⟨v,ps,h1,h2⟩:=h.lookup vF Tryz.underlying119 (zeC w) (zd:=.held zP) (zp:=[]) rfl (Zq hr)
 rw [he] at h2
 unfold rV at h2
 cases h2
 exact h1
theorem zeI {D:Nat->Nat->Prop} {w:World} {e:En} {ah:Option Addr} {ch:Nat} (hd:Dat D w (.slice ah e.holes.length ch) (rg e.holes)):Dat D w (.agg #[.int .u64 e.rep,.int .u64 e.max,.slice ah e.holes.length ch]) (ep e):=by
 refine .agg _ _ rfl (fun i hi=>?_) fun i p hp=>?_
 ·match i,hi with
  | 0,_=>rfl
  | 1,_=>rfl
  | 2,_=>rfl
 ·match i,hp with
  | 0,hp=>cases hp;exact .v _
  | 1,hp=>cases hp;exact .v _
  | 2,hp=>cases hp;exact hd
theorem zaa {C:Nat->Nat->Prop} {w:World} {n0:Nat} {e:En} {ah:Option Addr} {ch:Nat} (hE:zO e) (hl:e.holes.length<=10000) (hr:Dat C w (.slice ah e.holes.length ch) (rg e.holes)) (hC:∀ b o,C b o->b<n0) (hn:n0<=w.heap.size) (hG:GL C w) :
 Calls Tryz.prog 99 #[.agg #[.int .u64 e.rep,.int .u64 e.max,.slice ah e.holes.length ch]] w fun e' w'=>∃ ad cap,e'=.returned (.slice ad (kn e).length cap)/\Below w.heap.size w w'/\Dat (fun b o=>C b o\/(w.heap.size<=b/\b<w'.heap.size)) w' (.slice ad (kn e).length cap) (rg (kn e)):=by
 refine((XZ e hE (by omega)).2 C w _ hG (fun b o h=>Nat.lt_of_lt_of_le (hC b o h) hn) rfl (fun i p hp=>?_)).mono ?_
 ·match i,hp with
  | 0,hp=>cases hp;exact zeI hr
  | i+1,hp=>simp at hp
 ·rintro e' w' ⟨v,D',rfl,hb,q1,q2,q3,hd,_⟩
  have hd':Dat D' w' v (.sl ((kn e).map Q2) .sh):=hd
  obtain⟨ad,cap,sz,b,off,f,e1,_⟩:=(Rel.dat (ρ:=fun _=>0) (nb:=0) hd').inv_sl
  rw [List.length_map] at e1
  subst e1
  exact⟨ad,cap,rfl,hb,hd.mono (fun b o h=>(q2 b o h).imp id fun h'=>⟨h',q3 b o h⟩) fun _ _ _ _ h=>h⟩
theorem zW {w:World} {g:Nat} {cs:Array Value} {t:TypeId} (h:w.heap[g]? = some (.cells cs t (0,0))) (i:Nat) (v:Value) (hv:cs[i]? = some v):w.cell? ⟨g,i,none⟩=some v/\w.frozen? ⟨g,i,none⟩=false:=by
 constructor
 ·simp [World.cell?,h,hv]
 ·simp [World.frozen?,h]
theorem zmT:(fun r=>zT [] r)=fun _=>[]:=rfl
theorem Qm {C:Nat->Nat->Prop} {w wr w3 w5:World} {D:DV} {dom:List Nat} {f0 f1:Nat->List Iv} {e:En} {s0 s1 v:Value} {o1 o2:Obj} (hC:∀ b o,C b o->b<w.heap.size) (hpd:PairD C wr w.heap.size D dom f0 f1) (he:D.atKey (kR e.rep) (.held zP)=.held (.agg #[s0,s1]))
 (hB:Below w.heap.size w wr) (hlt:w.heap.size<wr.heap.size) (hb3:Below ((wr.alloc o1).alloc o2).heap.size ((wr.alloc o1).alloc o2) w3) (hd:Dat (fun b o=>C b o\/(((wr.alloc o1).alloc o2).heap.size<=b/\b<w3.heap.size)) w3 v (rg (kn e))) (j:Nat)
 (hg:(w3.setCell ⟨wr.heap.size+1,j,none⟩ v).grownBy w5 (some w.heap.size)) :
 PairD C w5 w.heap.size (D.put (kR e.rep) (.held (.agg #[v,s1]))) (dom++[e.rep]) (fun r=>if r=e.rep then kn e else f0 r) f1 /\
 PairD C w5 w.heap.size (D.put (kR e.rep) (.held (.agg #[s0,v]))) (dom++[e.rep]) f0 (fun r=>if r=e.rep then kn e else f1 r)/\Below w.heap.size w w5:=by
 have hs:((wr.alloc o1).alloc o2).heap.size=wr.heap.size+2:=by simp
 have h3:wr.heap.size+2<=w3.heap.size:=hs ▸ hb3.size
 have hblk:∀ k,k<wr.heap.size->(w3.setCell ⟨wr.heap.size+1,j,none⟩ v).heap[k]? = wr.heap[k]?:=fun k hk=>by
  rw [Below.heap_setCell _ _ _ _ (by show k≠wr.heap.size+1;omega),hb3.block k (by omega),Below.heap_alloc _ _ _ (by simp;omega),Below.heap_alloc _ _ _ hk]
 have p4:PairD C (w3.setCell ⟨wr.heap.size+1,j,none⟩ v) w.heap.size D dom f0 f1:=hpd.mono hC (by simp;omega) fun k hk _=>hblk k hk
 have d4:Dat (DL C w.heap.size (w3.setCell ⟨wr.heap.size+1,j,none⟩ v)) (w3.setCell ⟨wr.heap.size+1,j,none⟩ v) v (rg (kn e)):=by
  refine hd.mono (fun b o h=>h.imp id fun h=>⟨by omega,?_⟩) fun b o x h hx=>?_
  ·show b<(w3.setCell ⟨wr.heap.size+1,j,none⟩ v).heap.size
   simp
   omega
  ·refine(World.cell?_of_block (a:=⟨b,o,none⟩) (Below.heap_setCell _ _ _ _ ?_)).trans hx
   show b≠wr.heap.size+1
   rcases h with h | h
   ·have:=hC b o h
    omega
   ·omega
 have m5:∀ {D:DV} {dom:List Nat} {f0 f1:Nat->List Iv},PairD C (w3.setCell ⟨wr.heap.size+1,j,none⟩ v) w.heap.size D dom f0 f1->PairD C w5 w.heap.size D dom f0 f1:=fun h=>h.mono hC hg.size fun k hk hne=>hg.block k hk (by simpa using hne)
 refine⟨m5 (p4.put0 d4 he),m5 (p4.put1 d4 he),?_⟩
 have b4:Below w.heap.size w (w3.setCell ⟨wr.heap.size+1,j,none⟩ v):=by
  refine Below.setCell ?_ (by show w.heap.size<=wr.heap.size+1;omega) _
  refine Below.trans ((hB.alloc hB.size o1).alloc (by simp;omega) o2) (hb3.mono (by omega))
 exact b4.grown hg b4.size fun j hj=>by cases hj;exact Nat.le_refl _
theorem J4 (C:Nat->Nat->Prop) (a b:List En) (va vb:Value) (w:World) (ha:SmV a) (hb:SmV b) (ra:RdF C w.heap.size w va a) (rb:RdF C w.heap.size w vb b) (hC:∀ b o,C b o->b<w.heap.size) (hG:GL C w) :
 Calls Tryz.prog 82 #[va,vb] w fun e w'=>e=.returned (.map (some w.heap.size))/\Below w.heap.size w w'/\∃ D,w'.ownsMap Tryz.prog 33 rV w.heap.size (a.length+b.length) D/\PairD C w' w.heap.size D (zM a++zM b) (zT a) (zT b):=by
 have hmm:=@run_makeMap Tryz.prog
 have RA:=Lib.hid ra
 have RB:=Lib.hid rb
 obtain⟨aa,ca,rfl,hac,ham,_⟩:=ra
 obtain⟨ab,cb,rfl,hbc,hbm,_⟩:=rb
 unfold maxLen at ham hbm
 have i0:=zkt aa ab a.length b.length ca cb
 have i1:=zku aa ab a.length b.length ca cb
 go_enter Tryz.func82,Tryz.ntmps82
 go_wp2_with fail
 go_loopg [15] 2 (fun g x wr=>∃ D,((g=2/\x=.int .i64 0/\wr.ownsMap Tryz.prog 33 rV w.heap.size 0 D/\PairD C wr w.heap.size D [] (fun _=>[]) (fun _=>[])) \/
  (g=1/\x=.int .i64 1/\wr.ownsMap Tryz.prog 33 rV w.heap.size a.length D/\PairD C wr w.heap.size D (zM a) (zT a) (fun _=>[])) \/
  (g=0/\x=.int .i64 2/\wr.ownsMap Tryz.prog 33 rV w.heap.size (a.length+b.length) D/\PairD C wr w.heap.size D (zM a++zM b) (zT a) (zT b)))/\Below w.heap.size w wr)
 case atStart=>exact⟨.map [],.inl ⟨rfl,rfl,World.ownsMap_made _ _ _ _,PairD.start _ _ _⟩,(Below.refl _ _).alloc (Nat.le_refl _) _⟩
 case round=>
  obtain⟨D,hcase,hB⟩:=hrel
  obtain⟨wo,hwo⟩:∃ wo,wo=wr:=⟨_,rfl⟩
  subst hwo
  have HB:=Lib.hid hB
  clear hB
  rcases hcase with⟨rfl,rfl,hown,hpd⟩ | ⟨rfl,rfl,hown,hpd⟩ | ⟨rfl,rfl,hown,hpd⟩
  ·have HO:=Lib.hid hown
   have HP:=Lib.hid hpd
   clear hown hpd
   go_wp2_with fail
   go_loopg [21] a.length (fun g x wr=>∃ k D,k<=a.length/\g=a.length - k/\x=.int .i64 k/\wr.ownsMap Tryz.prog 33 rV w.heap.size (0+k) D/\PairD C wr w.heap.size D (zM (a.take k)) (zT (a.take k)) (fun _=>[])/\Below w.heap.size w wr/\w.heap.size<wr.heap.size)
   case atStart=>exact⟨0,D,Nat.zero_le _,rfl,rfl,HO.out,HP.out,HB.out,HO.out.lt⟩
   case round=>
    obtain⟨k,D',hk,rfl,rfl,hownk,hpk,hBk,hltk⟩:=hrel
    clear HO HP HB
    by_cases hlt:k<a.length
    ·have HO:=Lib.hid hownk
     have HP:=Lib.hid hpk
     have HB:=Lib.hid hBk
     obtain⟨a',cap',hav,_,_,hcl⟩:=RdF.keep hC RA.out fun j hj=>hBk.block j hj
     obtain⟨bb,off,hab,_,hbn,hcel⟩:=hcl (by intro e;subst e;simp at hlt)
     obtain⟨rfl,_,rfl⟩:aa=a'/\a.length=a.length/\ca=cap':=by simpa using hav
     subst hab
     obtain⟨c0,c1,⟨hv,c2,hvr⟩,hr1,hr2⟩:=hcel k hlt
     have HE:Hid (∃ e,e=a[k]):=⟨_,rfl⟩
     obtain⟨e,he⟩:=HE.out
     have hE:zO e/\e.holes.length<=10000:=by rw [he];exact⟨ha.1.1 _ (List.getElem_mem hlt),ha.2.2 _ (List.getElem_mem hlt)⟩
     have hT:=Vj ha.1 hlt
     have hR:zM (a.take (k+1))=zM (a.take k)++[e.rep]:=by unfold zM;rw [List.take_succ_eq_append_getElem hlt,he,List.map_append];rfl
     rw [<-he] at c0 c1 hvr hr1 hr2 hT
     have HT:=Lib.hid hT
     have HR:=Lib.hid hR
     clear hcl hcel he HE hav hownk hpk hBk hT hR
     obtain⟨s0,s1,hat,hd0,hd1⟩:=(HP.out.2 e.rep).2
     obtain⟨a0,n0,rfl⟩:=zK hd0
     obtain⟨a1,n1,rfl⟩:=zK hd1
     clear hd0 hd1
     have HA:=Lib.hid hat
     have hhl:e.holes.length<=maxLen:=by have:=hE.2;unfold maxLen;omega
     obtain⟨ah,ch,rfl⟩:=zK hvr
     have HH:=Lib.hid hvr
     clear hvr
     have hlk:=Qf (HO.out.alloc (.cells #[.int .u64 e.rep,.int .u64 e.max,.slice ah e.holes.length ch] 37)) hr1 HA.out
     have hkn:=zaa (w:=(wr.alloc (.cells #[.int .u64 e.rep,.int .u64 e.max,.slice ah e.holes.length ch] 37)).alloc (.cells #[.slice a0 (zT (a.take k) e.rep).length n0,.slice a1 ([]:List Iv).length n1] 125)) hE.1 hE.2
      (HH.out.mono (fun _ _ h=>h) fun j o x hj hx=>(World.cell?_of_block (a:=⟨j,o,none⟩) (by have hj':=hC j o hj;rw [Below.heap_alloc _ _ _ (by simp;omega),Below.heap_alloc _ _ _ (by show j<_;omega)])).trans hx) hC (by simp;omega)
      (hG.mono (fun _ _ h=>h) fun j o x hj hx=>(World.cell?_of_block (a:=⟨j,o,none⟩) (by have hj':=hC j o hj;rw [Below.heap_alloc _ _ _ (by simp;omega),Below.heap_alloc _ _ _ (by show j<_;omega),HB.out.block j (hC j o hj)])).trans hx)
     have HK:=Lib.hid hkn
     clear hat hkn
     have HG:=Lib.hid hG
     clear hG
     have tokA:True:=trivial
     have tokB:True:=trivial
     go_wp2_with (first
      | (go_at_call 99;have _t:=tokA;refine HK.out.mono ?_;rintro e' w3 ⟨ad,cap,rfl,hb3,hd3⟩
         have hx9:w3.heap[wr.heap.size]? = some (.cells #[.int .u64 e.rep,.int .u64 e.max,.slice ah e.holes.length ch] 37 (0,0)):=by rw [hb3.block _ (by simp;omega),Below.heap_alloc _ _ _ (by simp)];exact World.alloc_heap_new wr _
         have hx10:w3.heap[wr.heap.size+1]? = some (.cells #[.slice a0 (zT (a.take k) e.rep).length n0,.slice a1 ([]:List Iv).length n1] 125 (0,0)):=by rw [hb3.block _ (by simp)];have:=World.alloc_heap_new (wr.alloc (.cells #[.int .u64 e.rep,.int .u64 e.max,.slice ah e.holes.length ch] 37)) (.cells #[.slice a0 (zT (a.take k) e.rep).length n0,.slice a1 ([]:List Iv).length n1] 125);rwa [World.size_alloc] at this
         have hmb:w3.heap[w.heap.size]? = wr.heap[w.heap.size]?:=by rw [hb3.block _ (by simp;omega),Below.heap_alloc _ _ _ (by simp;omega),Below.heap_alloc _ _ _ (by omega)]
         have f1:=(zW hx9 0 _ rfl).1
         have f2:=(zW hx10 0 _ rfl).1
         have f3:=(zW hx10 0 _ rfl).2
         have f4:=(zW hx10 1 _ rfl).1
         have HO3:=Lib.hid (((yg HO.out hmb).setCell (a:=⟨wr.heap.size+1,0,none⟩) (by show w.heap.size≠wr.heap.size+1;omega) (.slice ad (kn e).length cap)))
         have HB3:=Lib.hid hb3
         have HD3:=Lib.hid hd3
         clear hx9 hx10 hmb hb3 hd3 tokA)
      | (at_mapUpdate;have _t:=tokB;refine wpList_mapUpdate_own _ rfl _ _ _ 119 rfl 33 125 vF Tryz.underlying119 rV w.heap.size (0+k) D' rfl HO3.out (by have:=ha.2.1;unfold maxLen;omega) _ _ (kR e.rep) rfl rfl (Zq hr1) _ [] rfl ?_;intro w5 hown5 hgrow5;clear tokB;have HO5:=Lib.hid hown5;have HG5:=Lib.hid hgrow5;clear hown5 hgrow5;dsimp only [Act.put])
      | go_in)
     obtain⟨p1,p2,p3⟩:=Qm hC HP.out HA.out HB.out hltk HB3.out HD3.out 0 HG5.out
     have h5:w.heap.size<w5.heap.size:=HO5.out.lt
     go_roundg (a.length - (k+1))
     case measure=>omega
     case rel=>exact⟨k+1,_,hlt,rfl,by simp,HO5.out,by rw [HR.out,HT.out];exact p1,p3,h5⟩
    ·have hke:k=a.length:=by omega
     subst hke
     rw [List.take_length] at hpk
     have HO:=Lib.hid hownk
     have HP:=Lib.hid hpk
     have HB:=Lib.hid hBk
     clear hownk hpk hBk
     go_wp2_with fail
     go_roundg 1
     case measure=>omega
     case rel=>exact⟨D',.inr (.inl ⟨rfl,rfl,by have:=HO.out;simpa using this,HP.out⟩),HB.out⟩
  ·have HO:=Lib.hid hown
   have HP:=Lib.hid hpd
   clear hown hpd
   go_wp2_with fail
   go_loopg [21] b.length (fun g x wr=>∃ k D,k<=b.length/\g=b.length - k/\x=.int .i64 k/\wr.ownsMap Tryz.prog 33 rV w.heap.size (a.length+k) D/\PairD C wr w.heap.size D (zM a++zM (b.take k)) (zT a) (zT (b.take k))/\Below w.heap.size w wr/\w.heap.size<wr.heap.size)
   case atStart=>exact⟨0,D,Nat.zero_le _,rfl,rfl,HO.out.mono (by omega),(by have:=HP.out;simpa [zM,zmT] using this),HB.out,HO.out.lt⟩
   case round=>
    obtain⟨k,D',hk,rfl,rfl,hownk,hpk,hBk,hltk⟩:=hrel
    clear HO HP HB
    by_cases hlt:k<b.length
    ·have HO:=Lib.hid hownk
     have HP:=Lib.hid hpk
     have HB:=Lib.hid hBk
     obtain⟨a',cap',hav,_,_,hcl⟩:=RdF.keep hC RB.out fun j hj=>hBk.block j hj
     obtain⟨bb,off,hab,_,hbn,hcel⟩:=hcl (by intro e;subst e;simp at hlt)
     obtain⟨rfl,_,rfl⟩:ab=a'/\b.length=b.length/\cb=cap':=by simpa using hav
     subst hab
     obtain⟨c0,c1,⟨hv,c2,hvr⟩,hr1,hr2⟩:=hcel k hlt
     have HE:Hid (∃ e,e=b[k]):=⟨_,rfl⟩
     obtain⟨e,he⟩:=HE.out
     have hE:zO e/\e.holes.length<=10000:=by rw [he];exact⟨hb.1.1 _ (List.getElem_mem hlt),hb.2.2 _ (List.getElem_mem hlt)⟩
     have hT:=Vj hb.1 hlt
     have hR:zM (b.take (k+1))=zM (b.take k)++[e.rep]:=by unfold zM;rw [List.take_succ_eq_append_getElem hlt,he,List.map_append];rfl
     rw [<-he] at c0 c1 hvr hr1 hr2 hT
     have HT:=Lib.hid hT
     have HR:=Lib.hid hR
     clear hcl hcel he HE hav hownk hpk hBk hT hR
     obtain⟨s0,s1,hat,hd0,hd1⟩:=(HP.out.2 e.rep).2
     obtain⟨a0,n0,rfl⟩:=zK hd0
     obtain⟨a1,n1,rfl⟩:=zK hd1
     clear hd0 hd1
     have HA:=Lib.hid hat
     have hhl:e.holes.length<=maxLen:=by have:=hE.2;unfold maxLen;omega
     obtain⟨ah,ch,rfl⟩:=zK hvr
     have HH:=Lib.hid hvr
     clear hvr
     have hlk:=Qf (HO.out.alloc (.cells #[.int .u64 e.rep,.int .u64 e.max,.slice ah e.holes.length ch] 37)) hr1 HA.out
     have hkn:=zaa (w:=(wr.alloc (.cells #[.int .u64 e.rep,.int .u64 e.max,.slice ah e.holes.length ch] 37)).alloc (.cells #[.slice a0 (zT a e.rep).length n0,.slice a1 (zT (b.take k) e.rep).length n1] 125)) hE.1 hE.2
      (HH.out.mono (fun _ _ h=>h) fun j o x hj hx=>(World.cell?_of_block (a:=⟨j,o,none⟩) (by have hj':=hC j o hj;rw [Below.heap_alloc _ _ _ (by simp;omega),Below.heap_alloc _ _ _ (by show j<_;omega)])).trans hx) hC (by simp;omega)
      (hG.mono (fun _ _ h=>h) fun j o x hj hx=>(World.cell?_of_block (a:=⟨j,o,none⟩) (by have hj':=hC j o hj;rw [Below.heap_alloc _ _ _ (by simp;omega),Below.heap_alloc _ _ _ (by show j<_;omega),HB.out.block j (hC j o hj)])).trans hx)
     have HK:=Lib.hid hkn
     clear hat hkn
     have HG:=Lib.hid hG
     clear hG
     have tokA:True:=trivial
     have tokB:True:=trivial
     go_wp2_with (first
      | (go_at_call 99;have _t:=tokA;refine HK.out.mono ?_;rintro e' w3 ⟨ad,cap,rfl,hb3,hd3⟩
         have hx9:w3.heap[wr.heap.size]? = some (.cells #[.int .u64 e.rep,.int .u64 e.max,.slice ah e.holes.length ch] 37 (0,0)):=by rw [hb3.block _ (by simp;omega),Below.heap_alloc _ _ _ (by simp)];exact World.alloc_heap_new wr _
         have hx10:w3.heap[wr.heap.size+1]? = some (.cells #[.slice a0 (zT a e.rep).length n0,.slice a1 (zT (b.take k) e.rep).length n1] 125 (0,0)):=by rw [hb3.block _ (by simp)];have:=World.alloc_heap_new (wr.alloc (.cells #[.int .u64 e.rep,.int .u64 e.max,.slice ah e.holes.length ch] 37)) (.cells #[.slice a0 (zT a e.rep).length n0,.slice a1 (zT (b.take k) e.rep).length n1] 125);rwa [World.size_alloc] at this
         have hmb:w3.heap[w.heap.size]? = wr.heap[w.heap.size]?:=by rw [hb3.block _ (by simp;omega),Below.heap_alloc _ _ _ (by simp;omega),Below.heap_alloc _ _ _ (by omega)]
         have f1:=(zW hx9 0 _ rfl).1
         have f2:=(zW hx10 0 _ rfl).1
         have f3:=(zW hx10 1 _ rfl).2
         have f4:=(zW hx10 1 _ rfl).1
         have HO3:=Lib.hid (((yg HO.out hmb).setCell (a:=⟨wr.heap.size+1,1,none⟩) (by show w.heap.size≠wr.heap.size+1;omega) (.slice ad (kn e).length cap)))
         have HB3:=Lib.hid hb3
         have HD3:=Lib.hid hd3
         clear hx9 hx10 hmb hb3 hd3 tokA)
      | (at_mapUpdate;have _t:=tokB;refine wpList_mapUpdate_own _ rfl _ _ _ 119 rfl 33 125 vF Tryz.underlying119 rV w.heap.size (a.length+k) D' rfl HO3.out (by have:=hb.2.1;have:=ha.2.1;unfold maxLen;omega) _ _ (kR e.rep) rfl rfl (Zq hr1) _ [] rfl ?_;intro w5 hown5 hgrow5;clear tokB;have HO5:=Lib.hid hown5;have HG5:=Lib.hid hgrow5;clear hown5 hgrow5;dsimp only [Act.put])
      | go_in)
     obtain⟨p1,p2,p3⟩:=Qm hC HP.out HA.out HB.out hltk HB3.out HD3.out 1 HG5.out
     have h5:w.heap.size<w5.heap.size:=HO5.out.lt
     go_roundg (b.length - (k+1))
     case measure=>omega
     case rel=>exact⟨k+1,_,hlt,rfl,by simp,HO5.out,by rw [HR.out,HT.out];rw [<-List.append_assoc];exact p2,p3,h5⟩
    ·have hke:k=b.length:=by omega
     subst hke
     rw [List.take_length] at hpk
     have HO:=Lib.hid hownk
     have HP:=Lib.hid hpk
     have HB:=Lib.hid hBk
     clear hownk hpk hBk
     go_wp2_with fail
     go_roundg 0
     case measure=>omega
     case rel=>exact⟨D',.inr (.inr ⟨rfl,rfl,HO.out,HP.out⟩),HB.out⟩
  ·have HO:=Lib.hid hown
   have HP:=Lib.hid hpd
   clear hown hpd
   go_wp2_with fail
   refine bodyPost_ret (results_tmp rfl _ _ _) rfl ?_
   exact⟨rfl,HB.out,D,HO.out,HP.out⟩
end Go.Proofs.YtopfkkogooocgaaGreat
namespace Go.Proofs.YtopfkkogooocgaaGreat
open Go.RowKit
def DX (C:Nat->Nat->Prop) (mb:Nat) (w:World) (v:Value):Nat->Nat->Prop:=fun b o=>DL C mb w b o/\v.ownBlock≠some b
def OutE (C:Nat->Nat->Prop) (mb base:Nat) (w:World) (v:Value) (es:List En):Prop:=
 ∃ xs,w.ownsRow base 37 3 v es.length xs/\∀ i (h:i<es.length),xs[i * 3]? = some (uV es[i].rep)/\xs[i * 3+1]? = some (uV es[i].max)/\∃ hv,xs[i * 3+2]? = some hv/\Dat (DX C mb w v) w hv (rg es[i].holes)/\MuI (fun b=>(base<=b/\b<w.heap.size)/\v.ownBlock≠some b) w hv
theorem OutE.start (C:Nat->Nat->Prop) (mb base:Nat) (w:World):OutE C mb base w (.slice none 0 0) []:=⟨[],World.ownsRow_nil _ _ _ _,fun i h=>absurd h (by simp)⟩
theorem OutE.owns {C:Nat->Nat->Prop} {mb base:Nat} {w:World} {v:Value} {es:List En} (h:OutE C mb base w v es):∀ k,v.ownBlock=some k->base<=k/\k<w.heap.size:=by
 obtain⟨xs,h1,_⟩:=h
 exact h1.lt
theorem DX.keep {C:Nat->Nat->Prop} {mb:Nat} {w w':World} {v:Value} {x:Value} {p:PV} (h:Dat (DX C mb w v) w x p) (hs:w.heap.size<=w'.heap.size) (hb:∀ k,k<w.heap.size->v.ownBlock≠some k->w'.heap[k]? = w.heap[k]?):Dat (DX C mb w' v) w' x p:=
 h.mono (fun b o h=>⟨h.1.imp id fun h=>⟨h.1,Nat.lt_of_lt_of_le h.2 hs⟩,h.2⟩) fun b o x h hx=>(World.cell?_of_block (a:=⟨b,o,none⟩) (hb b (World.block_lt_of_cell? w ⟨b,o,none⟩ hx) h.2)).trans hx
theorem OutE.keep {C:Nat->Nat->Prop} {mb base:Nat} {w w':World} {v:Value} {es:List En} (h:OutE C mb base w v es) (hs:w.heap.size<=w'.heap.size) (hb:∀ k,k<w.heap.size->w'.heap[k]? = w.heap[k]?):OutE C mb base w' v es:=by
 obtain⟨xs,h1,h2⟩:=h
 refine⟨xs,⟨h1.1,?_⟩,fun i hi=>?_⟩
 ·rcases h1.2 with h | ⟨g,cap,cur,e,hg,hc,r⟩
  ·exact .inl h
  ·exact .inr ⟨g,cap,cur,e,hg,(hb g (Array.getElem?_eq_some_iff.1 hc).1).trans hc,r⟩
 ·obtain⟨a,b,hv,c,d,m⟩:=h2 i hi
  exact⟨a,b,hv,c,DX.keep d hs fun k hk _=>hb k hk,(m.same fun b _ hb'=>hb b hb').mono fun b h=>⟨⟨h.1.1,Nat.lt_of_lt_of_le h.1.2 hs⟩,h.2⟩⟩
theorem OutE.push {C:Nat->Nat->Prop} {mb base:Nat} {w w':World} {v v':Value} {es:List En} {e:En} {xs:List Value} {hv:Value} (h2:∀ i (h:i<es.length),xs[i * 3]? = some (uV es[i].rep)/\xs[i * 3+1]? = some (uV es[i].max)/\∃ hv,xs[i * 3+2]? = some hv/\Dat (DX C mb w v) w hv (rg es[i].holes)/\MuI (fun b=>(base<=b/\b<w.heap.size)/\v.ownBlock≠some b) w hv)
 (h1:w.ownsRow base 37 3 v es.length xs) (hd:Dat (DX C mb w v) w hv (rg e.holes)) (hm:MuI (fun b=>(base<=b/\b<w.heap.size)/\v.ownBlock≠some b) w hv) (hC:∀ b o,C b o->b<mb) (hmb:mb<w.heap.size) (ho:w'.ownsRow base 37 3 v' (es.length+1) (xs++[uV e.rep,uV e.max,hv])) (hg:w.grownBy w' v.ownBlock) (hv':v'.ownBlock=v.ownBlock\/v'.ownBlock=some w.heap.size) :
 OutE C mb base w' v' (es++[e]):=by
 have key:∀ {x:Value} {p:PV},Dat (DX C mb w v) w x p->Dat (DX C mb w' v') w' x p:=fun {x p} h=>
  h.mono (fun b o h=>⟨h.1.imp id fun h=>⟨h.1,Nat.lt_of_lt_of_le h.2 hg.size⟩,fun e=>by
   rcases hv' with hv' | hv'
   ·exact h.2 (hv'.symm.trans e)
   ·rw [hv'] at e
    cases e
    rcases h.1 with h | h
    ·have:=hC _ _ h;omega
    ·omega⟩) fun b o x h hx=>(World.cell?_of_block (a:=⟨b,o,none⟩) (hg.block b (World.block_lt_of_cell? w ⟨b,o,none⟩ hx) fun e=>h.2 e.symm)).trans hx
 have key2:∀ {x:Value},MuI (fun b=>(base<=b/\b<w.heap.size)/\v.ownBlock≠some b) w x->MuI (fun b=>(base<=b/\b<w'.heap.size)/\v'.ownBlock≠some b) w' x:=fun h=>
  (h.same (w':=w') fun b hb hlt=>hg.block b hlt fun e=>hb.2 e.symm).mono fun b h=>⟨⟨h.1.1,Nat.lt_of_lt_of_le h.1.2 hg.size⟩,fun e=>by
    rcases hv' with hv' | hv'
    ·exact h.2 (hv'.symm.trans e)
    ·rw [hv'] at e
     cases e
     exact absurd h.1.2 (Nat.lt_irrefl _)⟩
 have hl:=h1.1
 refine⟨xs++[uV e.rep,uV e.max,hv],by simpa using ho,fun i hi=>?_⟩
 simp only [List.length_append,List.length_cons,List.length_nil,Nat.zero_add] at hi
 by_cases hlt:i<es.length
 ·obtain⟨a,b,hv,c,d,m⟩:=h2 i hlt
  rw [List.getElem_append_left hlt]
  refine⟨?_,?_,hv,?_,key d,key2 m⟩
  ·rw [List.getElem?_append_left (by omega)];exact a
  ·rw [List.getElem?_append_left (by omega)];exact b
  ·rw [List.getElem?_append_left (by omega)];exact c
 ·obtain rfl:i=es.length:=by omega
  rw [List.getElem_append_right (Nat.le_refl _)]
  simp only [Nat.sub_self,List.getElem_cons_zero]
  refine⟨?_,?_,hv,?_,key hd,key2 hm⟩
  ·rw [List.getElem?_append_right (by omega),show es.length * 3 - xs.length=0 by omega];rfl
  ·rw [List.getElem?_append_right (by omega),show es.length * 3+1 - xs.length=1 by omega];rfl
  ·rw [List.getElem?_append_right (by omega),show es.length * 3+2 - xs.length=2 by omega];rfl
theorem OutE.mu {C:Nat->Nat->Prop} {mb base:Nat} {w:World} {v:Value} {es:List En} (h:OutE C mb base w v es):MuE (base<=·) w v:=by
 obtain⟨xs,h1,h2⟩:=h
 rcases h1.2 with⟨rfl,h0⟩ | ⟨g,cap,cur,rfl,hg,hc,hn,hm,hs,ht⟩
 ·exact⟨0,MuR.nil⟩
 ·refine⟨es.length,some ⟨g,0,none⟩,cap,rfl,hn,hm,fun _=>⟨g,0,rfl,fun j hj=>?_⟩⟩
  have key:∀ i x,xs[i]? = some x->w.cell? ⟨g,i,none⟩=some x/\w.frozen? ⟨g,i,none⟩=false:=fun i x hx=>by
   rw [<-ht] at hx
   have hx':cur[i]? = some x:=by
    rw [List.getElem?_take] at hx
    split at hx
    ·simpa using hx
    ·cases hx
   simp [World.cell?,World.frozen?,hc,hx']
  obtain⟨a,b,hv,c,_,m⟩:=h2 j hj
  simp only [Nat.zero_add]
  exact⟨⟨hg,_,(key _ _ a).1,(key _ _ a).2⟩,⟨hg,_,(key _ _ b).1,(key _ _ b).2⟩,hv,(key _ _ c).1,m.mono fun b h=>h.1.1⟩
theorem Ki {D:Nat->Nat->Prop} {w:World} {v:Value} {l:List Iv} (h:Dat D w v (rg l)):v.oneCell'=true:=by
 obtain⟨ad,cap,rfl⟩:=zK h
 rfl
theorem OutE.dat {C:Nat->Nat->Prop} {mb base:Nat} {w:World} {v:Value} {es:List En} (h:OutE C mb base w v es) (hb:mb<base):Dat (DL C mb w) w v (vp es):=by
 obtain⟨xs,h1,h2⟩:=h
 rcases h1.2 with⟨rfl,h0⟩ | ⟨g,cap,cur,rfl,hg,hc,hn,hm,hs,ht⟩
 ·obtain rfl:=List.length_eq_zero_iff.1 h0
  exact .sl none 0 3 [] .sh 0 0 (fun _=>undef) (by simp) (fun h=>by cases h) (by decide) (fun h=>absurd rfl h) (fun i e h=>by simp at h) (fun j h=>by simp at h) (fun i e j p h=>by simp at h)
 ·have hlt:=(Array.getElem?_eq_some_iff.1 hc).1
  have cells:∀ j x,xs[j]? = some x->w.cell? ⟨g,j,none⟩=some x:=fun j x hx=>by
   have:=h1.cells (g:=g) rfl j x hx
   rw [zh,Nat.zero_add] at this
   exact this
  have hcell:∀ i (h:i<es.length) j p,(ec es[i])[j]? = some p->∃ x,xs[i * 3+j]? = some x/\Dat (DL C mb w) w x p/\x.oneCell'=true:=fun i h j p hp=>by
   obtain⟨a,b,hv,c,d,_⟩:=h2 i h
   match j,hp with
   | 0,hp=>cases hp;exact⟨_,a,.v _,rfl⟩
   | 1,hp=>cases hp;exact⟨_,b,.v _,rfl⟩
   | 2,hp=>cases hp;exact⟨_,c,d.mono (fun _ _ h=>h.1) fun _ _ _ _ h=>h,Ki d⟩
   | j+3,hp=>simp [ec] at hp
  have hmap:∀(i:Nat) (e:List PV),(es.map ec)[i]? = some e->∃ h:i<es.length,e=ec es[i]:=fun i e he=>by
   rw [List.getElem?_map] at he
   obtain⟨x,hx,rfl⟩:=Option.map_eq_some_iff.1 he
   obtain⟨h,rfl⟩:=List.getElem?_eq_some_iff.1 hx
   exact⟨h,rfl⟩
  have hlen:(es.map ec).length=es.length:=List.length_map _
  unfold vp
  rw [<-hlen]
  refine .sl (some ⟨g,0,none⟩) cap 3 (es.map ec) .sh g 0 (fun j=>(xs[j]?).getD undef) (by rw [hlen];exact hn) (fun h=>by cases h) hm (fun _=>rfl) (fun i e he=>?_) (fun j hj=>?_) (fun i e j p he hp=>?_)
  ·obtain⟨h,rfl⟩:=hmap i e he
   rfl
  ·rw [hlen] at hj
   have hi:j / 3<es.length:=by omega
   have h3:j % 3<(ec es[j / 3]).length:=Nat.mod_lt _ (by decide)
   obtain⟨x,hx,_,ho⟩:=hcell (j / 3) hi (j % 3) ((ec es[j / 3])[j % 3]) (List.getElem?_eq_getElem h3)
   rw [show j / 3 * 3+j % 3=j by omega] at hx
   rw [Nat.zero_add]
   refine⟨.inr ⟨by omega,hlt⟩,?_,?_⟩
   ·rw [hx];exact cells j x hx
   ·rw [hx];exact ho
  ·obtain⟨h,rfl⟩:=hmap i e he
   obtain⟨x,hx,hd,_⟩:=hcell i h j p hp
   rw [hx]
   exact hd
end Go.Proofs.YtopfkkogooocgaaGreat
