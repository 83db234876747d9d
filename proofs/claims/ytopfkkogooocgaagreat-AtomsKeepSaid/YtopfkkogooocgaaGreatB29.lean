import Derived.Test.YtopfkkogooocgaaGreatB17
set_option maxHeartbeats 16000000
set_option linter.unusedVariables false
set_option linter.unusedSimpArgs false
namespace Go.Proofs.YtopfkkogooocgaaGreat
open Go.RowKit
theorem zr5 (x:Nat) (hx:x<zk) (w:World):Calls Tryz.prog 29 #[.int .u64 x] w fun e w'=>e=.returned (.tuple #[.int .u64 ((x - 1:Nat):Int),.bool (decide (x≠0))])/\Below w.heap.size w w':=by
 have hM:=zw
 by_cases h:x=0
 ·subst h
  go_enter Tryz.func29,Tryz.ntmps29
  go_wp2
  refine bodyPost_ret (results_tmp2 rfl _ _ _) rfl ?_
  exact⟨rfl,Below.refl _ _⟩
 ·go_enter Tryz.func29,Tryz.ntmps29
  go_wp2
  refine bodyPost_ret (results_tmp2 rfl _ _ _) rfl ?_
  exact⟨by simp [h];omega,Below.refl _ _⟩
theorem OwnR.take {base:Nat} {w:World} {a:Option Addr} {cap:Nat} {l:List Iv} (h:OwnR base w (.slice a l.length cap) l) {k:Nat} (hk:k<=l.length):OwnR base w (.slice a k cap) (l.take k):=by
 obtain⟨⟨h1,h2⟩,hb⟩:=h
 have hl:(l.take k).length=k:=by simp;omega
 have hf:xw (l.take k)=(xw l).take (k * 2):=by
  have e:xw l=xw (l.take k)++xw (l.drop k):=by
   unfold xw
   rw [<-List.flatMap_append,List.take_append_drop]
  have e2:(xw (l.take k)).length=k * 2:=by rw [y6,hl]
  rw [e]
  exact(List.take_left' e2).symm
 refine⟨⟨by rw [y6],?_⟩,fun s hs=>hb s (List.mem_of_mem_take hs)⟩
 rw [hl]
 rcases h2 with⟨he,h0⟩ | ⟨g,cap',cur,he,hg,hh,hn,hc,hs,ht⟩
 ·obtain⟨rfl,h4,rfl⟩:a=none/\l.length=0/\cap=0:=by simpa using he
  obtain rfl:k=0:=by omega
  exact .inl ⟨rfl,rfl⟩
 ·obtain⟨rfl,_,rfl⟩:a=some ⟨g,0,none⟩/\l.length=l.length/\cap=cap':=by simpa using he
  refine .inr ⟨g,cap,cur,rfl,hg,hh,by omega,hc,hs,?_⟩
  rw [hf,<-ht,List.take_take]
  congr 1
  omega
theorem CIe.own {w wr:World} {rep:Nat} {a:Option Addr} {cap:Nat} {l:List Iv} {m:Int} {k:Nat} (h:CIe w rep a cap l m k wr) (hk:k<=l.length) (x y z:Value) :
 OwnR w.heap.size (((wr.setCell ⟨w.heap.size+1,0,none⟩ x).setCell ⟨w.heap.size+1,1,none⟩ y).setCell ⟨w.heap.size+1,2,none⟩ z) (.slice a k cap) (l.take k)/\Below w.heap.size w (((wr.setCell ⟨w.heap.size+1,0,none⟩ x).setCell ⟨w.heap.size+1,1,none⟩ y).setCell ⟨w.heap.size+1,2,none⟩ z):=by
 obtain⟨h1,h2,h3,h4⟩:=h
 have ht:=h3.take hk
 exact⟨OwnR.mono (base:=w.heap.size+2) ⟨ownsRow_setCell_below (ownsRow_setCell_below (ownsRow_setCell_below ht.1 (by simp) _) (by simp) _) (by simp) _,ht.2⟩ (by omega),((h4.setCell (by simp) _).setCell (by simp) _).setCell (by simp) _⟩
theorem zsQ {l:List Iv} {k:Nat} (h:k<l.length):l.take (k+1)=l.take k++[l[k]]:=List.take_succ_eq_append_getElem h
set_option maxRecDepth 100000 in
theorem zr0 {w:World} {rep max:Nat} {l K:List Iv} (he:zO ⟨rep,max,l⟩/\kn ⟨rep,max,l⟩=K) {vh:Value} (hr:RdR 0 w.heap.size w vh l) (hl:l.length<=10000) :
 Calls Tryz.prog 43 #[.agg #[.int .u64 rep,.int .u64 max,vh]] w fun x w'=>∃ u,x=.returned (.tuple #[.agg #[.int .u64 (Qi rep K).1.rep,.int .u64 (Qi rep K).1.max,u],.bool (Qi rep K).2])/\OwnR w.heap.size w' u (Qi rep K).1.holes/\Below w.heap.size w w':=by
 have hv:=hr
 obtain⟨av,cv,rfl,_⟩:=hv
 have HR:=Lib.hid hr
 have HL:=Lib.hid he
 clear hr he
 go_enter Tryz.func43,Tryz.ntmps43
 go_upto_region 1 with fail
 go_step3
 go_wp2_with (
  at_builtin
  (refine wpList_append_nil rfl _ _ rfl rfl rfl (v:=.slice av l.length cv) (l:=l) (HR.out.keep (Nat.le_refl _) (by simp<;>omega) fun b _ hb=>(Below.heap_alloc _ _ _ (by simp<;>omega)).trans (Below.heap_alloc _ _ _ hb)) (by omega) ?_)
  intro v' w3 ho hb
  obtain⟨a,cap,rfl⟩:=ho.val
  have e1:=(hb.block w.heap.size (by simp<;>omega)).trans ((Below.heap_alloc _ _ _ (by simp)).trans (World.alloc_heap_new w _))
  have e2:w3.heap[w.heap.size+1]? = some (.cells #[.int .u64 0,.int .u64 0,.slice none 0 0] 37 (0,0)):=(hb.block (w.heap.size+1) (by simp)).trans (zrF w _ _)
  have b3:Below w.heap.size w w3:=(((Below.refl _ w).alloc (Nat.le_refl _) _).alloc (by simp) _).trans (hb.mono (by simp<;>omega))
  have hf:=(cell_of e1 2 _ rfl).2
  have hc:=(cell_of e1 2 _ rfl).1)
 have hCI:CIe w rep a cap l max l.length (w3.setCell ⟨w.heap.size,2,none⟩ (.slice a l.length cap)):=by
  refine⟨heap_set e1 _,?_,⟨ownsRow_setCell_below (ho.mono (by simp)).1 (by simp) _,ho.2⟩,b3.setCell (Nat.le_refl _) _⟩
  rw [Below.heap_setCell _ _ _ _ (by simp)]
  exact e2
 have HC:=Lib.hid hCI
 clear hCI ho hb e1 e2 b3 hc hf
 have HP0:=Lib.hid (show zO ⟨rep,max,l.take l.length⟩/\kn ⟨rep,max,l.take l.length⟩=K from by rw [List.take_length];exact HL.out)
 clear HL
 go_step3
 go_wp2_with fail
 go_loopg [] l.length (fun g wr=>∃(m k:Nat),g=k/\k<=l.length/\CIe w rep a cap l m k wr/\zO ⟨rep,m,l.take k⟩/\kn ⟨rep,m,l.take k⟩=K)
 case atStart=>exact⟨_,_,rfl,Nat.le_refl _,HC.out,HP0.out⟩
 case round=>
  clear HC HP0
  obtain⟨m,_,rfl,hk,hCI,hre,hkn⟩:=hrel
  have hcan:YP ⟨rep,m,l.take gk⟩->Qi rep K=(⟨rep,m,l.take gk⟩,true):=fun hc=>by rw [<-hkn];exact ZM hc
  have h1:=hCI.1
  have h2:=hCI.2.1
  have c0:=(cell_of h1 0 (.int .u64 rep) rfl).1
  have c1:=(cell_of h1 1 (.int .u64 m) rfl).1
  have c2:=(cell_of h1 2 (.slice a gk cap) rfl).1
  have f1:=(cell_of h1 1 (.int .u64 m) rfl).2
  have f2:=(cell_of h1 2 (.slice a gk cap) rfl).2
  have d0:=(cell_of h2 0 (.int .u64 0) rfl).1
  have d1:=(cell_of h2 1 (.int .u64 0) rfl).1
  have d2:=(cell_of h2 2 (.slice none 0 0) rfl).1
  have j0:=(cell_of h2 0 (.int .u64 0) rfl).2
  have j1:=(cell_of h2 1 (.int .u64 0) rfl).2
  have j2:=(cell_of h2 2 (.slice none 0 0) rfl).2
  have n2:w.heap.size+1<wr.heap.size:=(Array.getElem?_eq_some_iff.1 h2).1
  have n1:w.heap.size<wr.heap.size:=by omega
  have HC:=Lib.hid hCI
  clear hCI h1 h2
  by_cases hk0:gk=0
  ·subst hk0
   have HOF:=Lib.hid (hcan (Xb hre rfl))
   clear hcan hre hkn
   go_wp2
   rw [Exit.noGoto_ret]
   refine bodyPost_ret (v:=.tuple #[.agg #[.int .u64 rep,.int .u64 m,.slice a 0 cap],.bool true]) ?_ rfl ?_
   ·rw [results_cell_tmp rfl]
    go_simp
   ·rw [HOF.out]
    exact⟨_,rfl,HC.out.own hk _ _ _⟩
  ·obtain⟨k,rfl⟩:∃ k,gk=k+1:=⟨gk - 1,by omega⟩
   have hls:=zsQ (show k<l.length by omega)
   obtain⟨q1,q2,g,rfl,hg,q3,q4⟩:=HC.out.2.2.1.at (k:=k) (by omega)
   have hbd:=HC.out.2.2.1.2 _ (List.getElem_mem (show k<l.length by omega))
   obtain⟨s,hs⟩:∃ s,s=l[k]'(by omega):=⟨_,rfl⟩
   rw [<-hs] at hls q3 q4 hbd
   clear hs
   unfold maxLen at q2
   by_cases h5:s.hi<m
   ·have HOF:=Lib.hid (hcan (zcc hre hls h5))
    clear hcan hre hkn hls
    go_upto_region 5 with fail
    rw [Exit.noGoto_ret]
    refine bodyPost_ret (v:=.tuple #[.agg #[.int .u64 rep,.int .u64 m,.slice (some ⟨g,0,none⟩) (k+1) cap],.bool true]) ?_ rfl ?_
    ·rw [results_cell_tmp rfl]
     go_simp
    ·obtain⟨x1,x2⟩:=HC.out.own hk (.int .u64 rep) (.int .u64 m) (.slice (some ⟨g,0,none⟩) (k+1) cap)
     rw [HOF.out]
     exact⟨_,rfl,x1.below ((Below.refl _ _).alloc (Nat.le_refl _) _) (Nat.le_refl _),x2.alloc x2.size _⟩
   ·by_cases h6:s.lo=0
    ·have HOF:=Lib.hid (show Qi rep K=(⟨0,0,[]⟩,false) from by rw [<-hkn,Jl hre hls (by show m<=s.hi;omega) h6];rfl)
     clear hcan hre hkn hls
     have hpv:∀ W,Calls Tryz.prog 29 #[.int .u64 s.lo] W fun e w'=>e=.returned (.tuple #[.int .u64 ((s.lo - 1:Nat):Int),.bool false])/\Below W.heap.size W w':=fun W=>by
      have:=zr5 s.lo hbd.1 W
      rwa [show decide (s.lo≠0)=false from by simp [h6]] at this
     generalize s.lo - 1=y at *
     clear h6
     go_upto_region 8 with(
      go_at_call 29
      refine(hpv _).mono ?_
      rintro e w4 ⟨rfl,hb4⟩
      have b4:Below wr.heap.size wr w4:=((Below.refl _ wr).alloc (Nat.le_refl _) _).trans (hb4.mono (by simp))
      have HC4:=Lib.hid (HC.out.keep b4)
      have e1:=HC4.out.1
      have e2:=HC4.out.2.1
      have c0:=(cell_of e1 0 (.int .u64 rep) rfl).1
      have c1:=(cell_of e1 1 (.int .u64 m) rfl).1
      have c2:=(cell_of e1 2 (.slice (some ⟨g,0,none⟩) (k+1) cap) rfl).1
      have f1:=(cell_of e1 1 (.int .u64 m) rfl).2
      have f2:=(cell_of e1 2 (.slice (some ⟨g,0,none⟩) (k+1) cap) rfl).2
      have d0:=(cell_of e2 0 (.int .u64 0) rfl).1
      have d1:=(cell_of e2 1 (.int .u64 0) rfl).1
      have d2:=(cell_of e2 2 (.slice none 0 0) rfl).1
      have j0:=(cell_of e2 0 (.int .u64 0) rfl).2
      have j1:=(cell_of e2 1 (.int .u64 0) rfl).2
      have j2:=(cell_of e2 2 (.slice none 0 0) rfl).2
      clear e1 e2)
     rw [Exit.noGoto_ret]
     refine bodyPost_ret (v:=.tuple #[.agg #[.int .u64 0,.int .u64 0,.slice none 0 0],.bool false]) ?_ rfl ?_
     ·rw [results_cell_tmp rfl]
      go_simp
     ·rw [HOF.out]
      exact⟨_,rfl,OwnR.nil _ _,(HC4.out.own hk (.int .u64 0) (.int .u64 0) (.slice none 0 0)).2⟩
    ·have HST:=Lib.hid (Jm hre hls (by show m<=s.hi;omega) (by omega))
     have HKN:=Lib.hid hkn
     clear hcan hre hkn hls
     have hpv:∀ W,Calls Tryz.prog 29 #[.int .u64 s.lo] W fun e w'=>e=.returned (.tuple #[.int .u64 ((s.lo - 1:Nat):Int),.bool true])/\Below W.heap.size W w':=fun W=>by
      have:=zr5 s.lo hbd.1 W
      rwa [show decide (s.lo≠0)=true from by simp [h6]] at this
     generalize s.lo - 1=y at *
     go_upto_region 8 with(
      go_at_call 29
      refine(hpv _).mono ?_
      rintro e w4 ⟨rfl,hb4⟩
      have b4:Below wr.heap.size wr w4:=((Below.refl _ wr).alloc (Nat.le_refl _) _).trans (hb4.mono (by simp))
      have HC4:=Lib.hid (HC.out.keep b4)
      have e1:=HC4.out.1
      have e2:=HC4.out.2.1
      have c0:=(cell_of e1 0 (.int .u64 rep) rfl).1
      have c1:=(cell_of e1 1 (.int .u64 m) rfl).1
      have c2:=(cell_of e1 2 (.slice (some ⟨g,0,none⟩) (k+1) cap) rfl).1
      have f1:=(cell_of e1 1 (.int .u64 m) rfl).2
      have f2:=(cell_of e1 2 (.slice (some ⟨g,0,none⟩) (k+1) cap) rfl).2
      have d0:=(cell_of e2 0 (.int .u64 0) rfl).1
      have d1:=(cell_of e2 1 (.int .u64 0) rfl).1
      have d2:=(cell_of e2 2 (.slice none 0 0) rfl).1
      have j0:=(cell_of e2 0 (.int .u64 0) rfl).2
      have j1:=(cell_of e2 1 (.int .u64 0) rfl).2
      have j2:=(cell_of e2 2 (.slice none 0 0) rfl).2
      clear e1 e2)
     go_region
     go_wp2
     go_roundg k
     case measure=>omega
     case rel=>exact⟨y,k,rfl,by omega,(HC.out.put b4 y k).drew,HST.out.1,HST.out.2.trans HKN.out⟩
end Go.Proofs.YtopfkkogooocgaaGreat
