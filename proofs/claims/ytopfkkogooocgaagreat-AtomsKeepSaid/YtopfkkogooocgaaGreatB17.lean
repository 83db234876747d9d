import Derived.WalkMore
import Derived.Test.YtopfkkogooocgaaGreatB7
set_option maxHeartbeats 16000000
set_option linter.unusedVariables false
set_option linter.unusedSimpArgs false
namespace Go.Proofs.YtopfkkogooocgaaGreat
open Go.RowKit
def Lax2 (n1:Nat) (u:Value) (w:World):Prop:=∃(a:Option Addr) (k cap:Nat),u=.slice a k cap/\k<=cap/\cap<=maxLen/\(k≠0->∃ b,a=some ⟨b,0,none⟩/\n1<=b/\(∀ o,w.frozen? ⟨b,o,none⟩=false)/\∀ j,j<k * 2->∃ m,w.cell? ⟨b,j,none⟩=some (.int .u64 m))
theorem someInt_set2 {w:World} {a:Addr} (h:∃ m,w.cell? a=some (.int .u64 m)) (b:Addr) (x:Int):∃ m,(w.setCell b (.int .u64 x)).cell? a=some (.int .u64 m):=by
 obtain⟨m,hm⟩:=h
 by_cases e:b=a
 ·subst e
  exact⟨x,World.cell?_setCell_same _ _ _ hm⟩
 ·exact⟨m,(World.cell?_setCell_other _ _ _ _ e).trans hm⟩
theorem Lax2.set {n1:Nat} {u:Value} {w:World} (h:Lax2 n1 u w) (p:Addr) (x:Int):Lax2 n1 u (w.setCell p (.int .u64 x)):=by
 obtain⟨a,k,cap,rfl,h1,h2,h3⟩:=h
 refine⟨a,k,cap,rfl,h1,h2,fun hk=>?_⟩
 obtain⟨b,rfl,hb,hf,hc⟩:=h3 hk
 exact⟨b,rfl,hb,fun o=>by rw [World.frozen?_setCell];exact hf o,fun i hi=>someInt_set2 (hc i hi) p x⟩
theorem OwnR.lax2 {n1:Nat} {a:Option Addr} {cap:Nat} {l:List Iv} {w:World} (h:OwnR n1 w (.slice a l.length cap) l) {k:Nat} (hk:k<=l.length):Lax2 n1 (.slice a k cap) w:=by
 obtain⟨⟨h1,h2⟩,hb⟩:=h
 rcases h2 with⟨he,h0⟩ | ⟨g,cap',cur,he,hg,hh,hn,hc,hs,ht⟩
 ·obtain⟨rfl,h4,rfl⟩:a=none/\l.length=0/\cap=0:=by simpa using he
  exact⟨_,k,_,rfl,by omega,by decide,fun h=>absurd (by omega) h⟩
 ·cases he
  refine⟨_,k,cap,rfl,by omega,hc,fun _=>⟨g,rfl,hg,fun o=>?_,fun j hj=>?_⟩⟩
  ·simp [World.frozen?,hh]
  ·have hi:j / 2<l.length:=by omega
   obtain⟨f1,f2⟩:=vz l (j / 2) hi
   rw [<-ht,List.getElem?_take,if_pos (by omega)] at f1 f2
   rcases Nat.mod_two_eq_zero_or_one j with h0 | h0
   ·rw [show j / 2 * 2=j from by omega] at f1
    exact⟨_,by simp only [World.cell?,hh];simpa using f1⟩
   ·rw [show j / 2 * 2+1=j from by omega] at f2
    exact⟨_,by simp only [World.cell?,hh];simpa using f2⟩
theorem OwnR.at {n1:Nat} {a:Option Addr} {cap:Nat} {l:List Iv} {w:World} (h:OwnR n1 w (.slice a l.length cap) l) {k:Nat} (hk:k<l.length):l.length<=cap/\cap<=maxLen/\∃ g,a=some ⟨g,0,none⟩/\n1<=g/\w.cell? ⟨g,k * 2,none⟩=some (.int .u64 l[k].lo)/\w.cell? ⟨g,k * 2+1,none⟩=some (.int .u64 l[k].hi):=by
 obtain⟨⟨h1,h2⟩,hb⟩:=h
 rcases h2 with⟨he,h0⟩ | ⟨g,cap',cur,he,hg,hh,hn,hc,hs,ht⟩
 ·omega
 ·cases he
  obtain⟨f1,f2⟩:=vz l k hk
  rw [<-ht,List.getElem?_take,if_pos (by omega)] at f1 f2
  exact⟨hn,hc,g,rfl,hg,by simp only [World.cell?,hh];simpa using f1,by simp only [World.cell?,hh];simpa using f2⟩
theorem wpList_append_nil {w:World} {ops:Array Oper} {rest:List Oper} {o:Oper} {a:Act} {Q:Exit->Act->World->Prop} (hgd:o.guard=none) (s x:Operand)
 (ho:o.op=.call { callee:=.builtin .append,args:=#[s,x],argTypes:=#[28,28] }) (hs:a.eval s=.slice none 0 0)
 {v:Value} {l:List Iv} (hx:a.eval x=v) (hr:RdR 0 w.heap.size w v l) (hl:l.length<=1099511627776)
 (h:∀ v' w',OwnR w.heap.size w' v' l->Below w.heap.size w w'->wpList Tryz.prog ops Q rest (a.put o.dst v') w') :
 wpList Tryz.prog ops Q (o::rest) a w:=by
 obtain⟨i,hi,hz,hsize,hby⟩:=info_parts Tryz.infoIv
 have hown:w.ownsRow w.heap.size 35 2 (.slice none 0 0) 0 []:=World.ownsRow_nil _ _ _ _
 have hbd:=hr.bound
 obtain⟨ad,cap,rfl,hlc,hcm,hc⟩:=hr
 cases ad with
 | none=>
   obtain rfl:l=[]:=by
    cases l with
    | nil=>rfl
    | cons s l=>obtain⟨b,off,e,_⟩:=hc (by simp);cases e
   refine wpList_plain hgd fun K hK=>?_
   have hfin:OwnR w.heap.size w (.slice none 0 0) []:=⟨hown,by simp⟩
   have hq:=hK _ _ (h _ _ hfin (Below.refl _ _))
   clear hown hc hbd h hK hfin hi hz hsize hby
   simp only [List.length_nil] at hx
   unfold Oper.wp execOp
   simp only [ho,resolve,invoke,builtin,Sem.run_bind,Sem.run_pure,Result.andThen_ok,List.map_toArray,List.map_cons,List.map_nil,hs,hx]
   go_simp
   exact hq
 | some ad=>
   refine wpList_append_own_at (P:=Tryz.prog) w hgd s x 28 ho w.heap.size 35 i (.agg #[.int .u64 0,.int .u64 0]) 2 16 Tryz.underlying28 hi hz hsize hby rfl (by decide) _ 0 [] hs hown ad l.length cap (xw l) hx (y6 l) ?_ ?_ (by unfold maxLen;omega) ?_ (by omega) ?_
   ·intro j u hj
    have hlt:j<l.length * 2:=by
     have:=(List.getElem?_eq_some_iff.1 hj).1
     rwa [y6] at this
    have hne:l≠[]:=by intro e;subst e;simp at hlt
    obtain⟨b,off,e,_,_,hcell⟩:=hc hne
    cases e
    have hadd:(⟨b,off,none⟩:Addr).add j=⟨b,off+j,none⟩:=by unfold Addr.add;split<;>simp_all
    rw [hadd]
    have hk:j / 2<l.length:=by omega
    obtain⟨g1,g2,_⟩:=hcell (j / 2) hk
    obtain⟨f1,f2⟩:=vz l (j / 2) hk
    rcases Nat.mod_two_eq_zero_or_one j with h0 | h0
    ·have e:j / 2 * 2=j:=by omega
     rw [e] at g1 f1
     rw [f1] at hj
     cases hj
     exact g1
    ·have e:j / 2 * 2+1=j:=by omega
     rw [show off+j / 2 * 2+1=off+j from by omega] at g2
     rw [e] at f2
     rw [f2] at hj
     cases hj
     exact g2
   ·intro u hu
    simp [xw] at hu
    obtain⟨s,_,rfl | rfl⟩:=hu<;>rfl
   ·omega
   ·intro v' w' ho hg _ hv
    refine h v' w' ⟨?_,hbd⟩ ⟨hg.os,hg.tape,hg.output,hg.size,fun k hk=>hg.block k (by omega) (by simp [Value.ownBlock])⟩
    simpa using ho
theorem heap_set {w:World} {b o:Nat} {cs:Array Value} {t:TypeId} {fr:Nat × Nat} (h:w.heap[b]? = some (.cells cs t fr)) (v:Value):(w.setCell ⟨b,o,none⟩ v).heap[b]? = some (.cells (cs.setIfInBounds o v) t fr):=by
 simp [World.setCell,Array.getElem?_modify,h]
theorem cell_of {w:World} {g:Nat} {cs:Array Value} {t:TypeId} (h:w.heap[g]? = some (.cells cs t (0,0))) (i:Nat) (v:Value) (hv:cs[i]? = some v):w.cell? ⟨g,i,none⟩=some v/\w.frozen? ⟨g,i,none⟩=false:=by
 constructor
 ·simp [World.cell?,h,hv]
 ·simp [World.frozen?,h]
theorem zrF (w:World) (o1 o2:Obj):((w.alloc o1).alloc o2).heap[w.heap.size+1]? = some o2:=by
 have h:=World.alloc_heap_new (w.alloc o1) o2
 rw [World.size_alloc] at h
 exact h
def CIe (w:World) (rep:Nat) (a:Option Addr) (cap:Nat) (l:List Iv) (m:Int) (k:Nat) (wr:World):Prop:=
 wr.heap[w.heap.size]? = some (.cells #[.int .u64 rep,.int .u64 m,.slice a k cap] 37 (0,0))/\wr.heap[w.heap.size+1]? = some (.cells #[.int .u64 0,.int .u64 0,.slice none 0 0] 37 (0,0)) /\
 OwnR (w.heap.size+2) wr (.slice a l.length cap) l/\Below w.heap.size w wr
theorem CIe.put {w wr w':World} {rep:Nat} {a:Option Addr} {cap:Nat} {l:List Iv} {m:Int} {k:Nat} (h:CIe w rep a cap l m k wr) (hb:Below wr.heap.size wr w') (m':Int) (k':Nat) :
 CIe w rep a cap l m' k' ((w'.setCell ⟨w.heap.size,1,none⟩ (.int .u64 m')).setCell ⟨w.heap.size,2,none⟩ (.slice a k' cap)):=by
 obtain⟨h1,h2,h3,h4⟩:=h
 have n1:=(Array.getElem?_eq_some_iff.1 h1).1
 have n2:=(Array.getElem?_eq_some_iff.1 h2).1
 have e1:=(hb.block _ n1).trans h1
 have e2:=(hb.block _ n2).trans h2
 refine⟨heap_set (heap_set e1 _) _,?_,⟨ownsRow_setCell_below (ownsRow_setCell_below (h3.below hb (Nat.le_refl _)).1 (by simp) _) (by simp) _,h3.2⟩,((h4.trans (hb.mono (Nat.le_of_lt n1))).setCell (Nat.le_refl _) _).setCell (Nat.le_refl _) _⟩
 rw [Below.heap_setCell _ _ _ _ (by simp),Below.heap_setCell _ _ _ _ (by simp)]
 exact e2
theorem Lax2.mono {n1 n2:Nat} {u:Value} {w:World} (h:Lax2 n2 u w) (hn:n1<=n2):Lax2 n1 u w:=by
 obtain⟨a,k,cap,h0,h1,h2,h3⟩:=h
 refine⟨a,k,cap,h0,h1,h2,fun hk=>?_⟩
 obtain⟨b,e,hb,r⟩:=h3 hk
 exact⟨b,e,by omega,r⟩
theorem CIe.done {w wr w':World} {rep:Nat} {a:Option Addr} {cap:Nat} {l:List Iv} {m:Int} {k:Nat} (h:CIe w rep a cap l m k wr) (hk:k<=l.length) (hb:Below wr.heap.size wr w') (x y z:Value) :
 Lax2 w.heap.size (.slice a k cap) (((w'.setCell ⟨w.heap.size+1,0,none⟩ x).setCell ⟨w.heap.size+1,1,none⟩ y).setCell ⟨w.heap.size+1,2,none⟩ z)/\Below w.heap.size w (((w'.setCell ⟨w.heap.size+1,0,none⟩ x).setCell ⟨w.heap.size+1,1,none⟩ y).setCell ⟨w.heap.size+1,2,none⟩ z):=by
 obtain⟨h1,h2,h3,h4⟩:=h
 have n1:=(Array.getElem?_eq_some_iff.1 h1).1
 refine⟨(OwnR.lax2 ⟨ownsRow_setCell_below (ownsRow_setCell_below (ownsRow_setCell_below (h3.below hb (Nat.le_refl _)).1 (by simp) _) (by simp) _) (by simp) _,h3.2⟩ hk).mono (by simp),(((h4.trans (hb.mono (Nat.le_of_lt n1))).setCell (by simp) _).setCell (by simp) _).setCell (by simp) _⟩
theorem Lax2.keep {n1:Nat} {u:Value} {w w':World} (h:Lax2 n1 u w) (hb:Below w.heap.size w w'):Lax2 n1 u w':=by
 obtain⟨a,k,cap,h0,h1,h2,h3⟩:=h
 refine⟨a,k,cap,h0,h1,h2,fun hk=>?_⟩
 obtain⟨b,e,hb1,hf,hc⟩:=h3 hk
 obtain⟨m,hm⟩:=hc 0 (by omega)
 have hlt:b<w.heap.size:=by
  rcases Nat.lt_or_ge b w.heap.size with h | h
  ·exact h
  ·rw [World.cell?,Array.getElem?_eq_none h] at hm;cases hm
 exact⟨b,e,hb1,fun o=>((zrj hb).2 b o hlt).trans (hf o),fun j hj=>by obtain⟨m,hm⟩:=hc j hj;exact⟨m,((zrj hb).1 b j hlt).trans hm⟩⟩
theorem CIe.keep {w wr w':World} {rep:Nat} {a:Option Addr} {cap:Nat} {l:List Iv} {m:Int} {k:Nat} (h:CIe w rep a cap l m k wr) (hb:Below wr.heap.size wr w'):CIe w rep a cap l m k w':=by
 obtain⟨h1,h2,h3,h4⟩:=h
 have n1:=(Array.getElem?_eq_some_iff.1 h1).1
 have n2:=(Array.getElem?_eq_some_iff.1 h2).1
 exact⟨(hb.block _ n1).trans h1,(hb.block _ n2).trans h2,h3.below hb (Nat.le_refl _),h4.trans (hb.mono (Nat.le_of_lt n1))⟩
theorem CIe.drew {w wr:World} {rep:Nat} {a:Option Addr} {cap:Nat} {l:List Iv} {m:Int} {k:Nat} (h:CIe w rep a cap l m k wr):CIe w rep a cap l m k wr.drew:=⟨h.1,h.2.1,h.2.2.1,h.2.2.2.drew⟩
theorem zr7 (x:Nat) (w:World):Calls Tryz.prog 103 #[.int .u64 x] w fun e w'=>e=.returned (.agg #[.int .u64 0,.int .u64 x])/\Below w.heap.size w w':=by
 go_enter Tryz.func103,Tryz.ntmps103
 go_wp2
 refine bodyPost_ret (v:=.agg #[.int .u64 0,.int .u64 x]) ?_ rfl ⟨rfl,(Below.refl _ _).alloc (Nat.le_refl _) _⟩
 have h:Tryz.f103.results=#[.cell 2 35]:=rfl
 simp only [results,h]
 go_simp
theorem zso {w:World} (r:Nat) {vh:Value} {l:List Iv} {f:En} {ok:Bool} (hr:RdR 0 w.heap.size w vh l) (hn:Nrm l) (hl:l.length<=100000) (hE:Qi r l=(f,ok)) :
 Calls Tryz.prog 84 #[.int .u64 r,vh] w fun e w'=>∃ u,e=.returned (.tuple #[.agg #[.int .u64 (f.rep:Nat),.int .u64 (f.max:Nat),u],.bool ok])/\OwnR w.heap.size w' u f.holes/\Below w.heap.size w w':=by
 have hv:=hr
 obtain⟨av,cv,rfl,h1,h2,h3⟩:=hv
 have HR:=Lib.hid hr
 clear hr
 have hM:=zw
 go_enter Tryz.func84,Tryz.ntmps84
 by_cases h0:l=[]
 ·subst h0
  cases (show Qi r []=(⟨0,0,[]⟩,false) from if_pos rfl).symm.trans hE
  simp only [List.length_nil] at *
  go_wp2
  refine bodyPost_ret (v:=.tuple #[.agg #[.int .u64 0,.int .u64 0,.slice none 0 0],.bool false]) ?_ rfl ?_
  ·rw [results_cell_tmp rfl]
   go_simp
  ·exact⟨_,rfl,OwnR.nil _ _,(Below.refl _ _).alloc (Nat.le_refl _) _⟩
 ·obtain⟨b,off,rfl,_,hb,hc⟩:=h3 h0
  obtain⟨k,hk⟩:∃ k,l.length=k+1:=⟨l.length - 1,by have:=List.length_pos_iff.2 h0;omega⟩
  obtain⟨q1,q2,q3,q4⟩:=hc k (by omega)
  clear h3 hc
  obtain⟨T,hT⟩:∃ T,l[k].hi=T:=⟨_,rfl⟩
  have htop:QV l=T:=by
   have h:=Kr (l:=l) (by omega)
   simp only [hk,Nat.add_sub_cancel] at h
   exact h.symm.trans hT
  rw [qD h0,htop] at hE
  cases hE
  clear htop
  rw [hT] at q2 q4
  unfold maxLen at h2
  rw [hk] at h1
  simp only [hk] at HR ⊢
  go_wp2_with (first
   | (go_at_call 103
      refine(zr7 T _).mono ?_
      rintro e w3 ⟨rfl,hb3⟩)
   | (go_at_call 102
      have s3:w.heap.size+1<=w3.heap.size:=by have:=hb3.size;simpa using this
      have b3:Below w.heap.size w w3:=((Below.refl _ w).alloc (Nat.le_refl _) _).trans (hb3.mono (by simp))
      refine(zbn l _ ⟨0,T⟩ w3 hn (Nat.zero_le _) q4 (HR.out.keep (Nat.le_refl _) b3.size fun b _ h=>b3.block b h) (by omega)).mono ?_
      rintro e w4 ⟨v,rfl,ho,hb4⟩
      have e4:=(hb4.block w.heap.size (by omega)).trans ((hb3.block w.heap.size (by simp)).trans (World.alloc_heap_new w _))
      obtain⟨a,cap,rfl⟩:=ho.val
      have d0:=(cell_of e4 0 (.int .u64 0) rfl).1
      have d1:=(cell_of e4 1 (.int .u64 0) rfl).1
      have d2:=(cell_of e4 2 (.slice none 0 0) rfl).1
      have j0:=(cell_of e4 0 (.int .u64 0) rfl).2
      have j1:=(cell_of e4 1 (.int .u64 0) rfl).2
      have j2:=(cell_of e4 2 (.slice none 0 0) rfl).2
      have b4:=b3.trans (hb4.mono b3.size)
      clear e4))
  refine bodyPost_ret (v:=.tuple #[.agg #[.int .u64 r,.int .u64 T,.slice a (qy zm [⟨0,T⟩] l).length cap],.bool true]) ?_ rfl ?_
  ·rw [results_cell_tmp rfl]
   go_simp
  ·exact⟨_,rfl,(show OwnR w3.heap.size _ _ _ from ⟨ownsRow_setCell_below (ownsRow_setCell_below (ownsRow_setCell_below ho.1 (by show w.heap.size<_;omega) _) (by show w.heap.size<_;omega) _) (by show w.heap.size<_;omega) _,ho.2⟩).mono (by omega),(((b4.setCell (Nat.le_refl _) _).setCell (Nat.le_refl _) _).setCell (Nat.le_refl _) _)⟩
end Go.Proofs.YtopfkkogooocgaaGreat
