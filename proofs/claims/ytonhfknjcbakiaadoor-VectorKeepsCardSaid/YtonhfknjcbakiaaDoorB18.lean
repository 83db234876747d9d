import Derived.WalkMore
import Derived.Test.YtonhfknjcbakiaaDoorB5
set_option maxHeartbeats 16000000
set_option linter.unusedVariables false
set_option linter.unusedSimpArgs false
namespace Go.Proofs.YtonhfknjcbakiaaDoor
open Go.RowKit
theorem kc {w:World} {ops:Array Oper} {rest:List Oper} {o:Oper} {a:Act} {Q:Exit->Act->World->Prop} (hgd:o.guard=none) (s x:Operand)
 (ho:o.op=.call { callee:=.builtin .append,args:=#[s,x],argTypes:=#[30,30] }) (i:TypeInfo) (z:Value) (bytes:Nat)
 (hi:Tryd.prog.info? 34 = some i) (hz:i.zero=some z) (hsize:i.size=2) (hby:i.bytes=bytes) (hbb:bytes<=64) (hzs:z.cells.size=2)
 (B:Nat) (hs:a.eval s=.slice (some ⟨B,0,none⟩) 0 0) (hB:w.heap[B]? = some (.cells #[] 34 (0,0))) (n0:Nat) (hn0:n0<=B)
 {v:Value} {l:List Iv} (hx:a.eval x=v) (hr:RdR 0 w.heap.size w v l) (hl:l.length<=1099511627776)
 (h:∀ v' w',OwnR n0 w' v' l->Below B w w'->wpList Tryd.prog ops Q rest (a.put o.dst v') w') :
 wpList Tryd.prog ops Q (o::rest) a w:=by
 have hBl:B<w.heap.size:=(Array.getElem?_eq_some_iff.1 hB).1
 have hown:w.ownsRow n0 34 2 (.slice (some ⟨B,0,none⟩) 0 0) 0 []:=⟨rfl,.inr ⟨B,0,#[],rfl,hn0,hB,Nat.le_refl _,by decide,rfl,rfl⟩⟩
 have hbd:=hr.bound
 obtain⟨ad,cap,rfl,hlc,hcm,hc⟩:=hr
 cases ad with
 | none=>
   obtain rfl:l=[]:=by
    cases l with
    | nil=>rfl
    | cons s l=>obtain⟨b,off,e,_⟩:=hc (by simp);cases e
   refine wpList_plain hgd fun K hK=>?_
   have hfin:OwnR n0 w (.slice (some ⟨B,0,none⟩) 0 0) []:=⟨hown,by simp⟩
   have hq:=hK _ _ (h _ _ hfin (Below.refl _ _))
   clear hown hc hbd h hK hfin
   simp only [List.length_nil] at hx
   unfold Oper.wp execOp
   simp only [ho,resolve,invoke,builtin,Sem.run_bind,Sem.run_pure,Result.andThen_ok,List.map_toArray,List.map_cons,List.map_nil,hs,hx]
   go_simp
   exact hq
 | some ad=>
   refine wpList_append_own_at (P:=Tryd.prog) w hgd s x 30 ho n0 34 i z 2 bytes Tryd.underlying30 hi hz hsize hby hzs (by decide) _ 0 [] hs hown ad l.length cap (xw l) hx (y6 l) ?_ ?_ (by unfold maxLen;omega) ?_ (by omega) ?_
   ·intro j u hj
    have hlt:j<l.length * 2:=by
     have:=(List.getElem?_eq_some_iff.1 hj).1
     rwa [y6] at this
    have hne:l≠[]:=by intro e;subst e;simp at hlt
    obtain⟨b,off,e,_,_,hcell⟩:=hc hne
    cases e
    have hadd:(⟨b,off,none⟩:Addr).add j=⟨b,off+j,none⟩:=by unfold Addr.add;split<;>simp_all
    rw [hadd]
    have hk:j / 2<l.length:=by omega
    obtain⟨g1,g2,_⟩:=hcell (j / 2) hk
    obtain⟨f1,f2⟩:=vz l (j / 2) hk
    rcases Nat.mod_two_eq_zero_or_one j with h0 | h0
    ·have e:j / 2 * 2=j:=by omega
     rw [e] at g1 f1
     rw [f1] at hj
     cases hj
     exact g1
    ·have e:j / 2 * 2+1=j:=by omega
     rw [show off+j / 2 * 2+1=off+j from by omega] at g2
     rw [e] at f2
     rw [f2] at hj
     cases hj
     exact g2
   ·intro u hu
    simp [xw] at hu
    obtain⟨s,_,rfl | rfl⟩:=hu<;>rfl
   ·calc (0+l.length) * bytes<=1099511627776 * 64:=Nat.mul_le_mul (by omega) hbb
     _<=140737488355328:=by decide
   ·intro v' w' ho hg _ hv
    refine h v' w' ⟨?_,hbd⟩ ⟨hg.os,hg.tape,hg.output,hg.size,fun k hk=>hg.block k (by omega) (by simp [Value.ownBlock];omega)⟩
    simpa using ho
def Lax2 (n1:Nat) (u:Value) (w:World):Prop:=∃(a:Option Addr) (k cap:Nat),u=.slice a k cap/\k<=cap/\cap<=maxLen/\(k≠0->∃ b,a=some ⟨b,0,none⟩/\n1<=b/\(∀ o,w.frozen? ⟨b,o,none⟩=false)/\∀ j,j<k * 2->∃ m,w.cell? ⟨b,j,none⟩=some (.int .u64 m))
theorem vc {w:World} {a:Addr} (h:∃ m,w.cell? a=some (.int .u64 m)) (b:Addr) (x:Int):∃ m,(w.setCell b (.int .u64 x)).cell? a=some (.int .u64 m):=by
 obtain⟨m,hm⟩:=h
 by_cases e:b=a
 ·subst e
  exact⟨x,World.cell?_setCell_same _ _ _ hm⟩
 ·exact⟨m,(World.cell?_setCell_other _ _ _ _ e).trans hm⟩
theorem Lax2.set {n1:Nat} {u:Value} {w:World} (h:Lax2 n1 u w) (p:Addr) (x:Int):Lax2 n1 u (w.setCell p (.int .u64 x)):=by
 obtain⟨a,k,cap,rfl,h1,h2,h3⟩:=h
 refine⟨a,k,cap,rfl,h1,h2,fun hk=>?_⟩
 obtain⟨b,rfl,hb,hf,hc⟩:=h3 hk
 exact⟨b,rfl,hb,fun o=>by rw [World.frozen?_setCell];exact hf o,fun i hi=>vc (hc i hi) p x⟩
theorem OwnR.lax2 {n1:Nat} {a:Option Addr} {cap:Nat} {l:List Iv} {w:World} (h:OwnR n1 w (.slice a l.length cap) l) {k:Nat} (hk:k<=l.length):Lax2 n1 (.slice a k cap) w:=by
 obtain⟨⟨h1,h2⟩,hb⟩:=h
 rcases h2 with⟨he,h0⟩ | ⟨g,cap',cur,he,hg,hh,hn,hc,hs,ht⟩
 ·obtain⟨rfl,h4,rfl⟩:a=none/\l.length=0/\cap=0:=by simpa using he
  exact⟨_,k,_,rfl,by omega,by decide,fun h=>absurd (by omega) h⟩
 ·cases he
  refine⟨_,k,cap,rfl,by omega,hc,fun _=>⟨g,rfl,hg,fun o=>?_,fun j hj=>?_⟩⟩
  ·simp [World.frozen?,hh]
  ·have hi:j / 2<l.length:=by omega
   obtain⟨f1,f2⟩:=vz l (j / 2) hi
   rw [<-ht,List.getElem?_take,if_pos (by omega)] at f1 f2
   rcases Nat.mod_two_eq_zero_or_one j with h0 | h0
   ·rw [show j / 2 * 2=j from by omega] at f1
    exact⟨_,by simp only [World.cell?,hh];simpa using f1⟩
   ·rw [show j / 2 * 2+1=j from by omega] at f2
    exact⟨_,by simp only [World.cell?,hh];simpa using f2⟩
theorem OwnR.at {n1:Nat} {a:Option Addr} {cap:Nat} {l:List Iv} {w:World} (h:OwnR n1 w (.slice a l.length cap) l) {k:Nat} (hk:k<l.length):l.length<=cap/\cap<=maxLen/\∃ g,a=some ⟨g,0,none⟩/\n1<=g/\w.cell? ⟨g,k * 2,none⟩=some (.int .u64 l[k].lo)/\w.cell? ⟨g,k * 2+1,none⟩=some (.int .u64 l[k].hi):=by
 obtain⟨⟨h1,h2⟩,hb⟩:=h
 rcases h2 with⟨he,h0⟩ | ⟨g,cap',cur,he,hg,hh,hn,hc,hs,ht⟩
 ·omega
 ·cases he
  obtain⟨f1,f2⟩:=vz l k hk
  rw [<-ht,List.getElem?_take,if_pos (by omega)] at f1 f2
  exact⟨hn,hc,g,rfl,hg,by simp only [World.cell?,hh];simpa using f1,by simp only [World.cell?,hh];simpa using f2⟩
theorem zp {w:World} {ops:Array Oper} {rest:List Oper} {o:Oper} {a:Act} {Q:Exit->Act->World->Prop} (hgd:o.guard=none) (s x:Operand)
 (ho:o.op=.call { callee:=.builtin .append,args:=#[s,x],argTypes:=#[30,30] }) (hs:a.eval s=.slice none 0 0)
 {v:Value} {l:List Iv} (hx:a.eval x=v) (hr:RdR 0 w.heap.size w v l) (hl:l.length<=1099511627776)
 (h:∀ v' w',OwnR w.heap.size w' v' l->Below w.heap.size w w'->wpList Tryd.prog ops Q rest (a.put o.dst v') w') :
 wpList Tryd.prog ops Q (o::rest) a w:=by
 obtain⟨i,hi,hz,hsize,hby⟩:=info_parts Tryd.infoIv
 have hown:w.ownsRow w.heap.size 34 2 (.slice none 0 0) 0 []:=World.ownsRow_nil _ _ _ _
 have hbd:=hr.bound
 obtain⟨ad,cap,rfl,hlc,hcm,hc⟩:=hr
 cases ad with
 | none=>
   obtain rfl:l=[]:=by
    cases l with
    | nil=>rfl
    | cons s l=>obtain⟨b,off,e,_⟩:=hc (by simp);cases e
   refine wpList_plain hgd fun K hK=>?_
   have hfin:OwnR w.heap.size w (.slice none 0 0) []:=⟨hown,by simp⟩
   have hq:=hK _ _ (h _ _ hfin (Below.refl _ _))
   clear hown hc hbd h hK hfin hi hz hsize hby
   simp only [List.length_nil] at hx
   unfold Oper.wp execOp
   simp only [ho,resolve,invoke,builtin,Sem.run_bind,Sem.run_pure,Result.andThen_ok,List.map_toArray,List.map_cons,List.map_nil,hs,hx]
   go_simp
   exact hq
 | some ad=>
   refine wpList_append_own_at (P:=Tryd.prog) w hgd s x 30 ho w.heap.size 34 i (.agg #[.int .u64 0,.int .u64 0]) 2 16 Tryd.underlying30 hi hz hsize hby rfl (by decide) _ 0 [] hs hown ad l.length cap (xw l) hx (y6 l) ?_ ?_ (by unfold maxLen;omega) ?_ (by omega) ?_
   ·intro j u hj
    have hlt:j<l.length * 2:=by
     have:=(List.getElem?_eq_some_iff.1 hj).1
     rwa [y6] at this
    have hne:l≠[]:=by intro e;subst e;simp at hlt
    obtain⟨b,off,e,_,_,hcell⟩:=hc hne
    cases e
    have hadd:(⟨b,off,none⟩:Addr).add j=⟨b,off+j,none⟩:=by unfold Addr.add;split<;>simp_all
    rw [hadd]
    have hk:j / 2<l.length:=by omega
    obtain⟨g1,g2,_⟩:=hcell (j / 2) hk
    obtain⟨f1,f2⟩:=vz l (j / 2) hk
    rcases Nat.mod_two_eq_zero_or_one j with h0 | h0
    ·have e:j / 2 * 2=j:=by omega
     rw [e] at g1 f1
     rw [f1] at hj
     cases hj
     exact g1
    ·have e:j / 2 * 2+1=j:=by omega
     rw [show off+j / 2 * 2+1=off+j from by omega] at g2
     rw [e] at f2
     rw [f2] at hj
     cases hj
     exact g2
   ·intro u hu
    simp [xw] at hu
    obtain⟨s,_,rfl | rfl⟩:=hu<;>rfl
   ·omega
   ·intro v' w' ho hg _ hv
    refine h v' w' ⟨?_,hbd⟩ ⟨hg.os,hg.tape,hg.output,hg.size,fun k hk=>hg.block k (by omega) (by simp [Value.ownBlock])⟩
    simpa using ho
theorem zrt (x:Nat) (w:World):Calls Tryd.prog 37 #[.int .u64 x] w fun e w'=>∃(y:Int) (b:Bool),e=.returned (.tuple #[.int .u64 y,.bool b])/\Below w.heap.size w w':=by
 go_enter Tryd.func37,Tryd.ntmps37
 go_wp2
 all_goals (refine bodyPost_ret (results_tmp2 rfl _ _ _) rfl ?_;exact⟨_,_,rfl,Below.refl _ _⟩)
theorem xn {w:World} {b o:Nat} {cs:Array Value} {t:TypeId} {fr:Nat × Nat} (h:w.heap[b]? = some (.cells cs t fr)) (v:Value):(w.setCell ⟨b,o,none⟩ v).heap[b]? = some (.cells (cs.setIfInBounds o v) t fr):=by
 simp [World.setCell,Array.getElem?_modify,h]
theorem zd {w:World} {g:Nat} {cs:Array Value} {t:TypeId} (h:w.heap[g]? = some (.cells cs t (0,0))) (i:Nat) (v:Value) (hv:cs[i]? = some v):w.cell? ⟨g,i,none⟩=some v/\w.frozen? ⟨g,i,none⟩=false:=by
 constructor
 ·simp [World.cell?,h,hv]
 ·simp [World.frozen?,h]
theorem zrF (w:World) (o1 o2:Obj):((w.alloc o1).alloc o2).heap[w.heap.size+1]? = some o2:=by
 have h:=World.alloc_heap_new (w.alloc o1) o2
 rw [World.size_alloc] at h
 exact h
def CIe (w:World) (rep:Nat) (a:Option Addr) (cap:Nat) (l:List Iv) (m:Int) (k:Nat) (wr:World):Prop:=
 wr.heap[w.heap.size]? = some (.cells #[.int .u64 rep,.int .u64 m,.slice a k cap] 32 (0,0))/\wr.heap[w.heap.size+1]? = some (.cells #[.int .u64 0,.int .u64 0,.slice none 0 0] 32 (0,0)) /\
 OwnR (w.heap.size+2) wr (.slice a l.length cap) l/\Below w.heap.size w wr
theorem CIe.put {w wr w':World} {rep:Nat} {a:Option Addr} {cap:Nat} {l:List Iv} {m:Int} {k:Nat} (h:CIe w rep a cap l m k wr) (hb:Below wr.heap.size wr w') (m':Int) (k':Nat) :
 CIe w rep a cap l m' k' ((w'.setCell ⟨w.heap.size,1,none⟩ (.int .u64 m')).setCell ⟨w.heap.size,2,none⟩ (.slice a k' cap)):=by
 obtain⟨h1,h2,h3,h4⟩:=h
 have n1:=(Array.getElem?_eq_some_iff.1 h1).1
 have n2:=(Array.getElem?_eq_some_iff.1 h2).1
 have e1:=(hb.block _ n1).trans h1
 have e2:=(hb.block _ n2).trans h2
 refine⟨xn (xn e1 _) _,?_,⟨ownsRow_setCell_below (ownsRow_setCell_below (h3.below hb (Nat.le_refl _)).1 (by simp) _) (by simp) _,h3.2⟩,((h4.trans (hb.mono (Nat.le_of_lt n1))).setCell (Nat.le_refl _) _).setCell (Nat.le_refl _) _⟩
 rw [Below.heap_setCell _ _ _ _ (by simp),Below.heap_setCell _ _ _ _ (by simp)]
 exact e2
theorem Lax2.mono {n1 n2:Nat} {u:Value} {w:World} (h:Lax2 n2 u w) (hn:n1<=n2):Lax2 n1 u w:=by
 obtain⟨a,k,cap,h0,h1,h2,h3⟩:=h
 refine⟨a,k,cap,h0,h1,h2,fun hk=>?_⟩
 obtain⟨b,e,hb,r⟩:=h3 hk
 exact⟨b,e,by omega,r⟩
theorem CIe.done {w wr w':World} {rep:Nat} {a:Option Addr} {cap:Nat} {l:List Iv} {m:Int} {k:Nat} (h:CIe w rep a cap l m k wr) (hk:k<=l.length) (hb:Below wr.heap.size wr w') (x y z:Value) :
 Lax2 w.heap.size (.slice a k cap) (((w'.setCell ⟨w.heap.size+1,0,none⟩ x).setCell ⟨w.heap.size+1,1,none⟩ y).setCell ⟨w.heap.size+1,2,none⟩ z)/\Below w.heap.size w (((w'.setCell ⟨w.heap.size+1,0,none⟩ x).setCell ⟨w.heap.size+1,1,none⟩ y).setCell ⟨w.heap.size+1,2,none⟩ z):=by
 obtain⟨h1,h2,h3,h4⟩:=h
 have n1:=(Array.getElem?_eq_some_iff.1 h1).1
 refine⟨(OwnR.lax2 ⟨ownsRow_setCell_below (ownsRow_setCell_below (ownsRow_setCell_below (h3.below hb (Nat.le_refl _)).1 (by simp) _) (by simp) _) (by simp) _,h3.2⟩ hk).mono (by simp),(((h4.trans (hb.mono (Nat.le_of_lt n1))).setCell (by simp) _).setCell (by simp) _).setCell (by simp) _⟩
theorem Lax2.keep {n1:Nat} {u:Value} {w w':World} (h:Lax2 n1 u w) (hb:Below w.heap.size w w'):Lax2 n1 u w':=by
 obtain⟨a,k,cap,h0,h1,h2,h3⟩:=h
 refine⟨a,k,cap,h0,h1,h2,fun hk=>?_⟩
 obtain⟨b,e,hb1,hf,hc⟩:=h3 hk
 obtain⟨m,hm⟩:=hc 0 (by omega)
 have hlt:b<w.heap.size:=by
  rcases Nat.lt_or_ge b w.heap.size with h | h
  ·exact h
  ·rw [World.cell?,Array.getElem?_eq_none h] at hm;cases hm
 exact⟨b,e,hb1,fun o=>((zrj hb).2 b o hlt).trans (hf o),fun j hj=>by obtain⟨m,hm⟩:=hc j hj;exact⟨m,((zrj hb).1 b j hlt).trans hm⟩⟩
theorem CIe.keep {w wr w':World} {rep:Nat} {a:Option Addr} {cap:Nat} {l:List Iv} {m:Int} {k:Nat} (h:CIe w rep a cap l m k wr) (hb:Below wr.heap.size wr w'):CIe w rep a cap l m k w':=by
 obtain⟨h1,h2,h3,h4⟩:=h
 have n1:=(Array.getElem?_eq_some_iff.1 h1).1
 have n2:=(Array.getElem?_eq_some_iff.1 h2).1
 exact⟨(hb.block _ n1).trans h1,(hb.block _ n2).trans h2,h3.below hb (Nat.le_refl _),h4.trans (hb.mono (Nat.le_of_lt n1))⟩
theorem CIe.drew {w wr:World} {rep:Nat} {a:Option Addr} {cap:Nat} {l:List Iv} {m:Int} {k:Nat} (h:CIe w rep a cap l m k wr):CIe w rep a cap l m k wr.drew:=⟨h.1,h.2.1,h.2.2.1,h.2.2.2.drew⟩
theorem zra {w:World} {rep max:Nat} {vh:Value} {l:List Iv} (hr:RdR 0 w.heap.size w vh l) (hl:l.length<=10000) :
 Calls Tryd.prog 22 #[.agg #[.int .u64 rep,.int .u64 max,vh]] w fun e w'=>∃(r m:Int) (u:Value) (b:Bool),e=.returned (.tuple #[.agg #[.int .u64 r,.int .u64 m,u],.bool b])/\Lax2 w.heap.size u w'/\Below w.heap.size w w':=by
 have hv:=hr
 obtain⟨av,cv,rfl,_⟩:=hv
 have HR:=Lib.hid hr
 clear hr
 go_enter Tryd.func22,Tryd.ntmps22
 go_upto_region 1 with fail
 go_step3
 go_wp2_with (
  at_builtin
  (refine zp rfl _ _ rfl rfl rfl (v:=.slice av l.length cv) (l:=l) (HR.out.keep (Nat.le_refl _) (by simp<;>omega) fun b _ hb=>(Below.heap_alloc _ _ _ (by simp<;>omega)).trans (Below.heap_alloc _ _ _ hb)) (by omega) ?_)
  intro v' w3 ho hb
  obtain⟨a,cap,rfl⟩:=ho.val
  have e1:=(hb.block w.heap.size (by simp<;>omega)).trans ((Below.heap_alloc _ _ _ (by simp)).trans (World.alloc_heap_new w _))
  have e2:w3.heap[w.heap.size+1]? = some (.cells #[.int .u64 0,.int .u64 0,.slice none 0 0] 32 (0,0)):=(hb.block (w.heap.size+1) (by simp)).trans (zrF w _ _)
  have b3:Below w.heap.size w w3:=(((Below.refl _ w).alloc (Nat.le_refl _) _).alloc (by simp) _).trans (hb.mono (by simp<;>omega))
  have hf:=(zd e1 2 _ rfl).2
  have hc:=(zd e1 2 _ rfl).1)
 have hCI:CIe w rep a cap l max l.length (w3.setCell ⟨w.heap.size,2,none⟩ (.slice a l.length cap)):=by
  refine⟨xn e1 _,?_,⟨ownsRow_setCell_below (ho.mono (by simp)).1 (by simp) _,ho.2⟩,b3.setCell (Nat.le_refl _) _⟩
  rw [Below.heap_setCell _ _ _ _ (by simp)]
  exact e2
 have HC:=Lib.hid hCI
 clear hCI ho hb e1 e2 b3 hc hf
 go_step3
 go_wp2_with fail
 go_loopg [] l.length (fun g wr=>∃(m:Int) (k:Nat),g=k/\k<=l.length/\CIe w rep a cap l m k wr)
 case atStart=>exact⟨_,_,rfl,Nat.le_refl _,HC.out⟩
 case round=>
  clear HC
  obtain⟨m,_,rfl,hk,hCI⟩:=hrel
  have h1:=hCI.1
  have h2:=hCI.2.1
  have c0:=(zd h1 0 (.int .u64 rep) rfl).1
  have c1:=(zd h1 1 (.int .u64 m) rfl).1
  have c2:=(zd h1 2 (.slice a gk cap) rfl).1
  have f1:=(zd h1 1 (.int .u64 m) rfl).2
  have f2:=(zd h1 2 (.slice a gk cap) rfl).2
  have d0:=(zd h2 0 (.int .u64 0) rfl).1
  have d1:=(zd h2 1 (.int .u64 0) rfl).1
  have d2:=(zd h2 2 (.slice none 0 0) rfl).1
  have j0:=(zd h2 0 (.int .u64 0) rfl).2
  have j1:=(zd h2 1 (.int .u64 0) rfl).2
  have j2:=(zd h2 2 (.slice none 0 0) rfl).2
  have n2:w.heap.size+1<wr.heap.size:=(Array.getElem?_eq_some_iff.1 h2).1
  have n1:w.heap.size<wr.heap.size:=by omega
  have HC:=Lib.hid hCI
  clear hCI h1 h2
  by_cases hk0:gk=0
  ·subst hk0
   go_wp2
   rw [Exit.noGoto_ret]
   refine bodyPost_ret (v:=.tuple #[.agg #[.int .u64 rep,.int .u64 m,.slice a 0 cap],.bool true]) ?_ rfl ?_
   ·rw [results_cell_tmp rfl]
    go_simp
   ·exact⟨_,_,_,_,rfl,HC.out.done hk (Below.refl _ _) _ _ _⟩
  ·obtain⟨k,rfl⟩:∃ k,gk=k+1:=⟨gk - 1,by omega⟩
   obtain⟨q1,q2,g,rfl,hg,q3,q4⟩:=HC.out.2.2.1.at (k:=k) (by omega)
   unfold maxLen at q2
   go_upto_region 5 with fail
   ·rw [Exit.noGoto_ret]
    refine bodyPost_ret (v:=.tuple #[.agg #[.int .u64 rep,.int .u64 m,.slice (some ⟨g,0,none⟩) (k+1) cap],.bool true]) ?_ rfl ?_
    ·rw [results_cell_tmp rfl]
     go_simp
    ·refine⟨_,_,_,_,rfl,?_⟩
     obtain⟨x1,x2⟩:=HC.out.done hk (Below.refl _ _) (.int .u64 rep) (.int .u64 m) (.slice (some ⟨g,0,none⟩) (k+1) cap)
     exact⟨x1.keep ((Below.refl _ _).alloc (Nat.le_refl _) _),x2.alloc x2.size _⟩
   ·go_upto_region 8 with(
     go_at_call 37
     refine(zrt _ _).mono ?_
     rintro e w4 ⟨y,b,rfl,hb4⟩
     have b4:Below wr.heap.size wr w4:=((Below.refl _ wr).alloc (Nat.le_refl _) _).trans (hb4.mono (by simp))
     have HC4:=Lib.hid (HC.out.keep b4)
     have e1:=HC4.out.1
     have e2:=HC4.out.2.1
     have c0:=(zd e1 0 (.int .u64 rep) rfl).1
     have c1:=(zd e1 1 (.int .u64 m) rfl).1
     have c2:=(zd e1 2 (.slice (some ⟨g,0,none⟩) (k+1) cap) rfl).1
     have f1:=(zd e1 1 (.int .u64 m) rfl).2
     have f2:=(zd e1 2 (.slice (some ⟨g,0,none⟩) (k+1) cap) rfl).2
     have d0:=(zd e2 0 (.int .u64 0) rfl).1
     have d1:=(zd e2 1 (.int .u64 0) rfl).1
     have d2:=(zd e2 2 (.slice none 0 0) rfl).1
     have j0:=(zd e2 0 (.int .u64 0) rfl).2
     have j1:=(zd e2 1 (.int .u64 0) rfl).2
     have j2:=(zd e2 2 (.slice none 0 0) rfl).2
     clear e1 e2)
    ·rw [Exit.noGoto_ret]
     refine bodyPost_ret (v:=.tuple #[.agg #[.int .u64 0,.int .u64 0,.slice none 0 0],.bool false]) ?_ rfl ?_
     ·rw [results_cell_tmp rfl]
      go_simp
     ·have x2:=(HC4.out.done hk (Below.refl _ _) (.int .u64 0) (.int .u64 0) (.slice none 0 0)).2
      exact⟨_,_,_,_,rfl,⟨none,0,0,rfl,Nat.le_refl _,by decide,fun h=>absurd rfl h⟩,x2⟩
    ·go_region
     go_wp2
     go_roundg k
     case measure=>omega
     case rel=>
      refine⟨y,k,rfl,by omega,?_⟩
      exact(HC.out.put b4 y k).drew
end Go.Proofs.YtonhfknjcbakiaaDoor
