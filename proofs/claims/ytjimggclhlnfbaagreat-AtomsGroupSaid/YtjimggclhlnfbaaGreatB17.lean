import Derived.Test.YtjimggclhlnfbaaGreatB16
set_option maxHeartbeats 16000000
set_option linter.unusedVariables false
set_option linter.unusedSimpArgs false
set_option maxRecDepth 100000
namespace Go.Proofs.YtjimggclhlnfbaaGreat
open Go.RowKit
attribute [-go_sem] qn
theorem YF {C:Nat->List Nat} {R:List Nat} {n j:Nat} {k:List Fg} (h:Kn C R n k) (ok:OkX C R) (hn:n<=400000) (hj:j<k.length) (hne:¬(zh k[j].vec=[]\/k[j].items=[])):AddOk (zE (k.take j)) ⟨k[j].items,zh k[j].vec⟩:=by
 have ht:=h.take j
 have hg:=ht.group ok
 have gi:=jr ht.r
 have hm:=List.getElem_mem hj
 have hw:=(h.ik _ hm).canVec
 have hs:=vW ht.r
 have hv:∀ g ∈ zE (k.take j),WV C R g.vec:=fun g hg=>by
  obtain⟨f,hf,e⟩:=hs.2.2 g hg
  rw [e];exact(ht.ik f hf).canVec
 exact⟨gi,Qe (h.r _ hm) hne,by have:=hg.l;omega,by have:=qN hm;have:=h.m;show k[j].items.length<=_;omega,fun g h1=>by have:=qN h1;have:=hg.m;omega,hw.can.bd,fun g h1=>(gi.ok g h1).1.bd,hw.nlen ok.1 (by have:=ok.2;omega),fun g h1=>(hv g h1).nlen ok.1 (by have:=ok.2;omega)⟩
theorem zcK {P:Program} {f:FuncId} {t:Tmp} {p:Value} {xs:List Operand} {c:Call} {o:Oper} {a:Act} {w:World} {K:Act->World->Prop} {Q:Exit->Act->World->Prop} (ho:o.op=.call c) (hc:c.callee=.value (.tmp t)) (hv:a.eval (.tmp t)=.func (.func f) #[p] #[]) (ha:c.args.toList=xs)
 (he:∀ args w,(callFunc f args).run P w=.ok (.enter f args) w)
 (h:Calls P f (p::xs.map a.eval).toArray w fun e w''=>match e with | .returned v=>K (a.put o.dst v) w'' | .panicked chain=>Q (.panic chain) a w'' | .outgrown=>LetsOut Q):o.wp P a w K Q:=by
 have hr:(execOp a.eval o).run P w=.ok (.enter f (p::xs.map a.eval).toArray) w:=by
  have e:c.args.map a.eval=(xs.map a.eval).toArray:=Array.toList_inj.1 (by rw [Array.toList_map,ha])
  simp only [execOp,ho,resolve,hc,e,hv,Deferred.ofValue,Sem.run_bind,Sem.run_pure,Result.andThen_ok,invoke]
  rw [show (#[p]++(xs.map a.eval).toArray++#[]:Array Value)=(p::xs.map a.eval).toArray from by simp]
  exact he _ _
 unfold Oper.wp
 rw [hr,Oper.upon_enter]
 exact h.mono (fun e w' h=>by cases e<;>exact h)
theorem YZ {B:Nat->List Nat} {R:List Nat} {n:Nat} (C:Nat->Nat->Prop) (k:List Fg) (vk:Value) (w:World) (hk:Kn B R n k) (ok:OkX B R) (hn:n<=400000) (rk:Dat C w vk (kp k)) (hC:∀ b o,C b o->b<w.heap.size) (hG:GL C w) :
 Calls Tryz.prog 19 #[vk] w fun e w'=>∃ v,e=.returned v/\Keep (fun b=>w.heap.size<=b) w w'/\Dat (DL C w.heap.size w') w' v (kp (zE k)):=by
 have hmf:∀(fn:Fn) (first cap:Array Value) (w:World),(Instr.makeFunc fn first cap).run Tryz.prog w=.ok (.func fn first cap) w:=fun _ _ _ _=>rfl
 obtain⟨aa,ca,fs,rfl,hl,hrow,hfs⟩:=Ze rk hC
 have hkl:=hk.l
 have HK:=Lib.hid hk
 have HROW:=Lib.hid hrow
 have HFS:=Lib.hid hfs
 have HGL:=Lib.hid hG
 have hca:=hrow.1
 have hcm:=hrow.2.1
 unfold maxLen at hcm
 rw [hl] at hca
 have hent:∀ args w,(callFunc 39 args).run Tryz.prog w=.ok (.enter 39 args) w:=enters_of Tryz.func39 (by kernel_rfl) rfl
 have HEN:=Lib.hid hent
 clear rk hrow hfs hG hent hk
 go_enter Tryz.func19,Tryz.ntmps19
 go_wp2_with fail
 go_loopg [11] k.length (fun g x wr=>∃ j u,j<=k.length/\g=k.length - j/\x=.int .i64 j/\Boxed wr w.heap.size 62 u/\OutG C (w.heap.size+1) (w.heap.size+2) wr u (zE (k.take j))/\Keep (fun b=>w.heap.size<=b) w wr)
 case atStart=>exact⟨0,_,Nat.zero_le _,rfl,rfl,World.alloc_heap_new w _,OutG.start _ _ _ _,(Keep.refl _ w).alloc _⟩
 case round=>
  obtain⟨j,u,hj,rfl,rfl,hbx,hout,hkr⟩:=hrel
  have HBX:=Lib.hid hbx
  have HOUT:=Lib.hid hout
  have HKR:=Lib.hid hkr
  have hrw:=hbx.lt
  have cb:=hbx.cell
  clear hbx hout hkr
  by_cases hlt:j<k.length
  ·have hltf:j<fs.length:=by omega
   obtain⟨bb,off,rfl,hbn,hcel⟩:=HROW.out.2.2 (by intro e;subst e;simp at hltf)
   obtain⟨c0,c1⟩:=hcel j hltf
   obtain⟨d0,d1⟩:=HFS.out j hltf
   replace c0:=(HKR.out.cell (p:=⟨bb,off+j * 2,none⟩) (by show bb<_;omega) (by show ¬ w.heap.size<=bb;omega)).trans c0
   replace c1:=(HKR.out.cell (p:=⟨bb,off+j * 2+1,none⟩) (by show bb<_;omega) (by show ¬ w.heap.size<=bb;omega)).trans c1
   have HAO:=Lib.hid (fun hne=>YF HK.out ok hn hlt hne)
   have HGT:=Lib.hid (kf hlt)
   have hfm:=List.getElem_mem hlt
   have hsm:=HK.out.s _ hfm
   have hfr:=HK.out.r _ hfm
   have hil:k[j].items.length<=400000:=by have:=qN hfm;have:=HK.out.m;omega
   generalize k[j]=f at *
   generalize fs[j]=q at *
   obtain⟨ai,ci,e0⟩:=zI d0
   obtain⟨av,cv,e1⟩:=xq d1
   rw [e0] at c0 d0
   rw [e1] at c1 d1
   have hCr:∀ b o,C b o->b<wr.heap.size:=fun b o h=>by have:=hC b o h;omega
   have hGr:GL C wr:=HGL.out.mono (fun _ _ h=>h) fun b o x hc hx=>HKR.out.cell_some hx (by have:=hC b o hc;show ¬ w.heap.size<=b;omega)
   have hdm:∀(x:Value) (p:PV),Dat C w x p->∀ W,Below wr.heap.size wr W->Dat C W x p:=fun x p h W hW=>h.mono (fun _ _ h=>h) fun b o x hc hx=>(World.cell?_of_block (a:=⟨b,o,none⟩) (hW.block b (hCr b o hc))).trans (HKR.out.cell_some hx (by have:=hC b o hc;show ¬ w.heap.size<=b;omega))
   have hGW:∀ W,Below wr.heap.size wr W->GL C W:=fun W hW=>hGr.mono (fun _ _ h=>h) fun b o x hc hx=>(World.cell?_of_block (a:=⟨b,o,none⟩) (hW.block b (hCr b o hc))).trans hx
   have hcan:∀ W,Below wr.heap.size wr W->Calls Tryz.prog 40 #[.slice av f.vec.length cv] W fun e w'=>∃ a c,e=.returned (.slice a (zh f.vec).length c)/\Below W.heap.size W w'/\Dat (fun b o=>C b o\/(W.heap.size<=b/\b<w'.heap.size)) w' (.slice a (zh f.vec).length c) (vp (zh f.vec)):=fun W hW=>by
    refine(vL (D:=C) (zcF f.vec hfr.2 hsm.2.1 hsm.2.2) (hGW W hW) (fun b o h=>Nat.lt_of_lt_of_le (hCr b o h) hW.size) rfl (fun i p hp=>?_)).mono ?_
    ·match i,hp with
     | 0,hp=>cases hp;exact hdm _ _ d1 W hW
     | i+1,hp=>simp at hp
    ·rintro e w' ⟨v,rfl,hb,hd⟩
     obtain⟨a,c,rfl⟩:=xq hd
     exact⟨a,c,rfl,hb,hd⟩
   have HCAN:=Lib.hid hcan
   have HD0:=Lib.hid d0
   have HDM:=Lib.hid hdm
   have HGW:=Lib.hid hGW
   have HCR:=Lib.hid hCr
   clear hcan d0 d1 hdm hGW hCr hGr hcel hfm hsm hfr e0 e1
   have tokA:True:=trivial
   by_cases h1:0<(zh f.vec).length
   ·by_cases h2:0<f.items.length
    ·go_wp2_with (first
      | (go_at_call 40;have _t:=tokA;refine(HCAN.out _ ((Below.refl _ _).alloc (Nat.le_refl _) _)).mono ?_;rintro e w3 ⟨a3,n3,rfl,hb3,hd3⟩
         have hx3:w3.heap[wr.heap.size]? = some (.cells #[.slice ai f.items.length ci,.slice av f.vec.length cv] 39 (0,0)):=(hb3.block _ (by simp)).trans (World.alloc_heap_new wr _)
         have f0:=(zR hx3 0 _ rfl).1
         have HB3:=Lib.hid (((Below.refl _ wr).alloc (Nat.le_refl _) _).trans (hb3.mono (by simp)))
         have hs3:=hb3.size
         simp only [World.size_alloc] at hs3
         have HD3:=Lib.hid hd3
         clear hb3 hd3 hx3 tokA)
      | go_in)
     refine zcK (t:=27) (xs:=[.tmp 31]) rfl rfl rfl rfl HEN.out ?_
     have hne:¬(zh f.vec=[]\/f.items=[]):=fun e=>by
      rcases e with e | e
      ·rw [e] at h1;simp at h1
      ·rw [e] at h2;simp at h2
     have hsu:=HOUT.out.owns
     refine(XW (C:=C) (base:=w.heap.size+2) (rb:=w.heap.size) (v:=u) (o:=zE (k.take j)) (f:=⟨f.items,zh f.vec⟩) (va:=.slice ai f.items.length ci) (vv:=.slice a3 (zh f.vec).length n3) (HAO.out hne) (HOUT.out.keep (by omega) fun b hb=>HB3.out.block b hb) ((HB3.out.block _ hrw).trans HBX.out) (by omega) (by omega) hC (HGW.out _ HB3.out) ?_ ?_).mono ?_
     ·exact(HDM.out _ _ HD0.out _ HB3.out).mono (fun b o h=>⟨.inl h,fun e=>by have:=(hsu b e).1;have:=hC b o h;omega⟩) fun _ _ _ _ h=>h
     ·refine HD3.out.mono (fun b o h=>?_) fun _ _ _ _ h=>h
      rcases h with h | h
      ·exact⟨.inl h,fun e=>by have:=(hsu b e).1;have:=hC b o h;omega⟩
      ·simp only [World.size_alloc] at h
       exact⟨.inr ⟨by omega,h.2⟩,fun e=>by have:=(hsu b e).2;omega⟩
     rintro e w4 ⟨⟨u',rfl⟩,v',hbx4,hout4,hk4⟩
     have HBX4:=Lib.hid hbx4
     have HOUT4:=Lib.hid hout4
     have HK4:=Lib.hid hk4
     clear hbx4 hout4 hk4
     dsimp only
     go_wp2_with fail
     go_roundg (k.length - (j+1))
     case measure=>omega
     case rel=>
      refine⟨j+1,v',hlt,rfl,by simp,HBX4.out,?_,(HKR.out.trans (Keep.of_below' HB3.out (Nat.le_refl _))).trans (HK4.out.mono fun b _ h=>by omega)⟩
      rw [HGT.out,yi,if_neg hne]
      exact HOUT4.out
    ·have h0:f.items=[]:=by cases hf:f.items with | nil=>rfl | cons a l=>rw [hf] at h2;simp at h2
     have H0:=Lib.hid h0
     clear h0
     go_wp2_with (first
      | (go_at_call 40;have _t:=tokA;refine(HCAN.out _ ((Below.refl _ _).alloc (Nat.le_refl _) _)).mono ?_;rintro e w3 ⟨a3,n3,rfl,hb3,hd3⟩
         have hx3:w3.heap[wr.heap.size]? = some (.cells #[.slice ai f.items.length ci,.slice av f.vec.length cv] 39 (0,0)):=(hb3.block _ (by simp)).trans (World.alloc_heap_new wr _)
         have f0:=(zR hx3 0 _ rfl).1
         have HB3:=Lib.hid (((Below.refl _ wr).alloc (Nat.le_refl _) _).trans (hb3.mono (by simp)))
         have hs3:=hb3.size
         simp only [World.size_alloc] at hs3
         clear hb3 hd3 hx3 tokA)
      | go_in)
     go_roundg (k.length - (j+1))
     case measure=>omega
     case rel=>
      refine⟨j+1,u,hlt,rfl,by simp,(HB3.out.block _ hrw).trans HBX.out,?_,HKR.out.trans (Keep.of_below' HB3.out (Nat.le_refl _))⟩
      rw [HGT.out,yi,if_pos (.inr H0.out)]
      exact HOUT.out.keep (by omega) fun b hb=>HB3.out.block b hb
   ·have h0:zh f.vec=[]:=by cases hf:zh f.vec with | nil=>rfl | cons a l=>rw [hf] at h1;simp at h1
    have H0:=Lib.hid h0
    clear h0
    go_wp2_with (first
     | (go_at_call 40;have _t:=tokA;refine(HCAN.out _ ((Below.refl _ _).alloc (Nat.le_refl _) _)).mono ?_;rintro e w3 ⟨a3,n3,rfl,hb3,hd3⟩
        have HB3:=Lib.hid (((Below.refl _ wr).alloc (Nat.le_refl _) _).trans (hb3.mono (by simp)))
        have hs3:=hb3.size
        simp only [World.size_alloc] at hs3
        clear hb3 hd3 tokA)
     | go_in)
    go_roundg (k.length - (j+1))
    case measure=>omega
    case rel=>
     refine⟨j+1,u,hlt,rfl,by simp,(HB3.out.block _ hrw).trans HBX.out,?_,HKR.out.trans (Keep.of_below' HB3.out (Nat.le_refl _))⟩
     rw [HGT.out,yi,if_pos (.inl H0.out)]
     exact HOUT.out.keep (by omega) fun b hb=>HB3.out.block b hb
  ·obtain rfl:j=k.length:=by omega
   go_wp2_with fail
   refine bodyPost_ret (results_tmp rfl _ _ _) rfl ?_
   have h:=HOUT.out.dat (by omega)
   rw [List.take_length] at h
   exact⟨_,rfl,HKR.out,h.mono (fun b o h=>h.imp id fun h=>⟨by omega,h.2⟩) fun _ _ _ _ h=>h⟩
theorem Js {B:Nat->List Nat} {R:List Nat} {n:Nat} (k:List Fg) (hk:Kn B R n k) (ok:OkX B R) (hn:n<=400000):Cn Tryz.prog 19 [kp k] (kp (zE k)):=by
 refine xx rfl (enters_of Tryz.func19 (by kernel_rfl) rfl) fun D w vs hG hD hsz hd=>?_
 rw [Ja hsz]
 refine(YZ D k _ w hk ok hn (hd 0 _ rfl) hD hG).mono ?_
 rintro e w' ⟨v,rfl,hb,hv⟩
 exact⟨v,rfl,hb.below (Nat.le_refl _) fun _ h h'=>by omega,hv.mono (fun _ _ h=>h.imp id fun h=>⟨Nat.le_of_lt h.1,h.2⟩) fun _ _ _ _ h=>h⟩
theorem KR (w:World) (t ty:TypeId) (ht:Tryz.prog.underlying t=some (.slice 39)) (base:Nat) (v:Value) (n:Nat) (xs:List Value) (hown:w.ownsRow base 39 2 v n xs) (ad:Option Addr) (m c:Nat) (news:List Value) (hl:news.length=m * 2)
 (hnews:(m=0/\ad=none)\/∃ a,ad=some a/\∀ j u,news[j]? = some u->w.cell? (a.add j)=some u) (h1:∀ u ∈ news,u.oneCell'=true) (h63:n+m<=1073741824) (hbase:base<=w.heap.size) :
 ∃ v' w',(Builtin.append_ #[t,t] ty #[v,.slice ad m c]).run Tryz.prog w=.ok v' w'/\w'.ownsRow base 39 2 v' (n+m) (xs++news)/\w.grownBy w' v.ownBlock/\(v'.ownBlock=v.ownBlock\/v'.ownBlock=some w.heap.size):=by
 obtain⟨i0,hi0,hz0,hz1,hz2⟩:=info_parts Q5
 rcases hnews with⟨rfl,rfl⟩ | ⟨a,rfl,hn⟩
 ·obtain rfl:news=[]:=List.length_eq_zero_iff.1 hl
  obtain⟨ba,cp,rfl,hcp⟩:∃ ba cp,v=.slice ba n cp/\n<=cp:=by
   rcases hown.2 with⟨rfl,rfl⟩ | ⟨g,cap,cur,rfl,_,_,h,_⟩
   ·exact⟨none,0,rfl,Nat.le_refl _⟩
   ·exact⟨_,_,rfl,h⟩
  exact⟨_,w,kD w t ty _ i0 ht hi0 ba n cp c hcp,by simpa using hown,k9 _ _,.inl rfl⟩
 ·obtain⟨v',w',r1,r2,r3,_,r5⟩:=run_append_own_at (P:=Tryz.prog) w base t ty 39 i0 _ 2 48 ht hi0 hz0 hz1 hz2 rfl (by decide) v n xs hown a m c news (by simpa using hl) hn h1 (by unfold maxLen;omega) (by omega) hbase
  exact⟨v',w',r1,r2,r3,r5⟩
theorem yw {ops:Array Oper} {o:Oper} {a:Act} {w:World} {K:Act->World->Prop} {Q:Exit->Act->World->Prop} {E:Prop} (s x:Operand) (t:TypeId) (hgd:o.guard=none)
 (ho:o.op=.call { callee:=.builtin .append,args:=#[s,x],argTypes:=#[t,t] }) (ht:Tryz.prog.underlying t=some (.slice 39)) (base:Nat) (v:Value) (n:Nat) (xs:List Value) (hs:a.eval s=v) (hown:w.ownsRow base 39 2 v n xs)
 (ad:Option Addr) (m c:Nat) (news:List Value) (hx:a.eval x=.slice ad m c) (hl:news.length=m * 2) (hnews:(m=0/\ad=none)\/∃ a,ad=some a/\∀ j u,news[j]? = some u->w.cell? (a.add j)=some u) (h1:∀ u ∈ news,u.oneCell'=true) (h63:n+m<=1073741824) (hbase:base<=w.heap.size)
 (h:∀ v' w',w'.ownsRow base 39 2 v' (n+m) (xs++news)->w.grownBy w' v.ownBlock->(v'.ownBlock=v.ownBlock\/v'.ownBlock=some w.heap.size)->K (a.put o.dst v') w'):if Region.wanted o (yielded ops a.tmps)=true then Oper.wp Tryz.prog o a w K Q else E:=by
 have hw:Region.wanted o (yielded ops a.tmps)=true:=by simp [Region.wanted,hgd]
 rw [if_pos hw]
 obtain⟨v',w',hr,h2,h3,h4⟩:=KR w t o.type ht base v n xs hown ad m c news hl hnews h1 h63 hbase
 unfold Oper.wp execOp
 simp only [ho,resolve,invoke,builtin,Sem.run_bind,Sem.run_pure,Result.andThen_ok,List.map_toArray,List.map_cons,List.map_nil,hs,hx,hr]
 exact h v' w' h2 h3 h4
theorem zbH {w:World} {base A:Nat} (hA:base<=A) (h:w.heap[A]? = some (.cells #[] 39 (0,0))):w.ownsRow base 39 2 (.slice (some ⟨A,0,none⟩) 0 0) 0 []:=⟨rfl,.inr ⟨A,0,#[],rfl,hA,h,Nat.le_refl _,Nat.zero_le _,rfl,rfl⟩⟩
theorem OutG.at {C:Nat->Nat->Prop} {mb base:Nat} {w:World} {ad:Option Addr} {cap:Nat} {o:List Fg} (h:OutG C mb base w (.slice ad o.length cap) o) {i:Nat} (hi:i<o.length) :
 ∃ g ai ci av cv cur,ad=some ⟨g,0,none⟩/\base<=g/\w.heap[g]? = some (.cells cur 39 (0,0))/\w.cell? ⟨g,i * 2,none⟩=some (.slice ai o[i].items.length ci)/\w.cell? ⟨g,i * 2+1,none⟩=some (.slice av o[i].vec.length cv) /\
  Dat (DX C mb w (.slice ad o.length cap)) w (.slice ai o[i].items.length ci) (rg o[i].items)/\Dat (DX C mb w (.slice ad o.length cap)) w (.slice av o[i].vec.length cv) (vp o[i].vec):=by
 obtain⟨xs,hxs,hel⟩:=h
 obtain⟨a,b,ea,eb,da,db⟩:=hel i hi
 obtain⟨g,cap',cur,ev,hgb,hgl,hgc,_⟩:=hxs.cases.resolve_left (fun h=>by omega)
 obtain⟨rfl,_,rfl⟩:ad=some ⟨g,0,none⟩/\o.length=o.length/\cap=cap':=by simpa using ev
 have hc:∀ j x,xs[j]? = some x->w.cell? ⟨g,j,none⟩=some x:=fun j x hx=>by
  have:=World.ownsRow.cells hxs.1 (g:=g) rfl j x hx
  rw [zi,Nat.zero_add] at this
  exact this
 obtain⟨ai,ci,rfl⟩:=zI da
 obtain⟨av,cv,rfl⟩:=xq db
 exact⟨g,ai,ci,av,cv,cur,rfl,hgb,hgc,hc _ _ ea,hc _ _ eb,da,db⟩
theorem zcD {C:Nat->Nat->Prop} {rb:Nat} {w:World} {v a b:Value} {l m:List Iv} (hl:Nrm l) (hm:Nrm m) (h1:l.length<=131072) (h2:m.length<=131072) (da:Dat (DX C rb w v) w a (rg l)) (db:Dat (DX C rb w v) w b (rg m)) (hv:∀ k,v.ownBlock=some k->k<w.heap.size) (hCv:∀ b o,C b o->v.ownBlock≠some b) (hC:∀ b o,C b o->b<w.heap.size) (hrb:rb<w.heap.size) (hG:GL C w) :
 Calls Tryz.prog 51 #[a,b] w fun e w'=>∃ u,e=.returned u/\Below w.heap.size w w'/\Dat (DX C rb w' v) w' u (rg (qu zn l m)):=by
 refine(vL (D:=DX C rb w v) (VO l m hl hm h1 h2) (hG.mono (fun b o h=>⟨.inl h,hCv b o h⟩) fun _ _ _ _ h=>h) (fun b o h=>h.1.elim (hC b o) And.right) rfl (fun j p hp=>?_)).mono ?_
 ·match j,hp with
  | 0,hp=>cases hp;exact da
  | 1,hp=>cases hp;exact db
  | j+2,hp=>simp at hp
 ·rintro e w' ⟨u,rfl,hb,hd⟩
  exact⟨u,rfl,hb,hd.mono (fun b o h=>by
   rcases h with h | h
   ·exact⟨h.1.imp id fun h=>⟨h.1,Nat.lt_of_lt_of_le h.2 hb.size⟩,h.2⟩
   ·exact⟨.inr ⟨by omega,h.2⟩,fun e=>by have:=hv b e;omega⟩) fun _ _ _ _ h=>h⟩
theorem zfx {C:Nat->Nat->Prop} {rb:Nat} {w:World} {v a b:Value} {l m:List En} (c:Int) (hc:zX (zo l) (zo m)=c) (hl:l.length<=1024/\∀ e ∈ l,e.holes.length<=1048576) (hm:m.length<=1024/\∀ e ∈ m,e.holes.length<=1048576) (da:Dat (DX C rb w v) w a (vp l)) (db:Dat (DX C rb w v) w b (vp m)) (hCv:∀ b o,C b o->v.ownBlock≠some b) (hC:∀ b o,C b o->b<w.heap.size) (hG:GL C w) :
 Calls Tryz.prog 50 #[a,b] w fun e w'=>e=.returned (.int .i64 c)/\Below w.heap.size w w':=by
 subst hc
 refine(vL (D:=DX C rb w v) (Yl l m hl.2 hm.2 hl.1 hm.1) (hG.mono (fun b o h=>⟨.inl h,hCv b o h⟩) fun _ _ _ _ h=>h) (fun b o h=>h.1.elim (hC b o) And.right) rfl (fun j p hp=>?_)).mono ?_
 ·match j,hp with
  | 0,hp=>cases hp;exact da
  | 1,hp=>cases hp;exact db
  | j+2,hp=>simp at hp
 ·rintro e w' ⟨u,rfl,hb,hd⟩
  have e:=(Rel.dat (ρ:=fun _=>0) (nb:=0) hd).v_inv
  rw [e]
  exact⟨rfl,hb⟩
theorem zdR {D:Nat->Nat->Prop} {w:World} {ad:Option Addr} {cap:Nat} (h:cap<=maxLen):Dat D w (.slice ad 0 cap) (kp []):=
 .sl ad cap 2 [] .sh 0 0 (fun _=>undef) (by simp) (fun h=>by cases h) h (fun h=>absurd rfl h) (fun i e h=>by simp at h) (fun j h=>by simp at h) (fun i e j p h=>by simp at h)
theorem Xe {w:World} {base base' size n:Nat} {e:TypeId} {v:Value} {xs:List Value} (h:w.ownsRow base e size v n xs) (hb:base'<=base):w.ownsRow base' e size v n xs:=⟨h.1,h.2.imp id fun⟨g,cap,cur,e1,hg,r⟩=>⟨g,cap,cur,e1,Nat.le_trans hb hg,r⟩⟩
theorem ZD {B:Nat->List Nat} {R:List Nat} {n:Nat} (C:Nat->Nat->Prop) (k:List Fg) (vk:Value) (w:World) (hk:Kn B R n k) (ok:OkX B R) (hn:n<=100000) (rk:Dat C w vk (kp k)) (hC:∀ b o,C b o->b<w.heap.size) (hG:GL C w) :
 Calls Tryz.prog 24 #[vk] w fun e w'=>∃ v,e=.returned v/\Keep (fun b=>w.heap.size<=b) w w'/\Dat (fun b o=>C b o\/(w.heap.size<=b/\b<w'.heap.size)) w' v (kp (zE k)):=by
 obtain⟨aa,ca,fs,rfl,hl,hrow,hfs⟩:=Ze rk hC
 have hkl:=hk.l
 have HK:=Lib.hid hk
 have HROW:=Lib.hid hrow
 have HFS:=Lib.hid hfs
 have HGL:=Lib.hid hG
 have hca:=hrow.1
 have hcm:=hrow.2.1
 unfold maxLen at hcm
 rw [hl] at hca
 clear rk hrow hfs hG hk
 obtain⟨mb,hmb⟩:∃ mb,mb=w.heap.size - 1:=⟨_,rfl⟩
 go_enter Tryz.func24,Tryz.ntmps24
 go_wp2_with fail
 go_loopg [3,4] k.length (fun g xv xi wr=>∃ j,j<=k.length/\g=k.length - j/\xi=.int .i64 j/\OutG C mb w.heap.size wr xv (zE (k.take j))/\Keep (fun b=>w.heap.size<=b) w wr)
 case atStart=>exact⟨0,Nat.zero_le _,rfl,rfl,OutG.start _ _ _ _,Keep.refl _ w⟩
 case round=>
  obtain⟨j,hj,rfl,rfl,hout,hkr⟩:=hrel
  obtain⟨o,ho⟩:∃ o,o=zE (k.take j):=⟨_,rfl⟩
  rw [<-ho] at hout
  obtain⟨ad,cap,rfl,hlc,hcm2⟩:=hout.shape
  unfold maxLen at hcm2
  have HOUT:=Lib.hid hout
  have HKR:=Lib.hid hkr
  have HO:=Lib.hid ho
  have hwr:=hkr.size
  by_cases hlt:j<k.length
  ·have hltf:j<fs.length:=by omega
   obtain⟨bb,off,rfl,hbn,hcel⟩:=HROW.out.2.2 (by intro e;subst e;simp at hltf)
   obtain⟨c0,c1⟩:=hcel j hltf
   obtain⟨d0,d1⟩:=HFS.out j hltf
   replace c0:=(HKR.out.cell (p:=⟨bb,off+j * 2,none⟩) (by show bb<_;omega) (by show ¬ w.heap.size<=bb;omega)).trans c0
   replace c1:=(HKR.out.cell (p:=⟨bb,off+j * 2+1,none⟩) (by show bb<_;omega) (by show ¬ w.heap.size<=bb;omega)).trans c1
   have hao:¬(zh k[j].vec=[]\/k[j].items=[])->AddOk o ⟨k[j].items,zh k[j].vec⟩:=fun hne=>ho ▸ YF HK.out ok (by omega) hlt hne
   have hgt:zE (k.take (j+1))=yi o k[j]:=ho ▸ kf hlt
   have hfm:=List.getElem_mem hlt
   have hsm:=HK.out.s _ hfm
   have hfr:=HK.out.r _ hfm
   have hil:k[j].items.length<=100000:=by have:=qN hfm;have:=HK.out.m;omega
   have hkt:=(HK.out.take j).group ok
   rw [<-ho] at hkt
   have hol:o.length<=100000:=by have:=hkt.l;omega
   have hoi:∀ g ∈ o,g.items.length<=100000:=fun g hg=>by have:=qN hg;have:=hkt.m;omega
   have hwv:∀ g ∈ o,g.vec.length<=1024/\∀ e ∈ g.vec,e.holes.length<=1048576:=fun g hg=>by
    obtain⟨x,hx,e⟩:=(vW (HK.out.take j).r).2.2 g (ho ▸ hg)
    have:=((HK.out.take j).ik x hx).canVec.bv ok.1 ok.2
    rw [<-e] at this
    exact⟨by have:=this.2.1;omega,fun e he=>by have:=this.2.2 e he;omega⟩
   have hwf:(zh k[j].vec).length<=1024/\∀ e ∈ zh k[j].vec,e.holes.length<=1048576:=by
    have:=(HK.out.ik _ hfm).canVec.bv ok.1 ok.2
    exact⟨by have:=this.2.1;omega,fun e he=>by have:=this.2.2 e he;omega⟩
   have hsrt:o.Pairwise fun f g=>Zg f.vec g.vec:=ho ▸ (jr (HK.out.take j).r).srt
   have hnr:∀ g ∈ o,Nrm g.items:=fun g hg=>((jr (HK.out.take j).r).ok g (ho ▸ hg)).2.2.1
   generalize k[j]=f at *
   generalize fs[j]=q at *
   obtain⟨ai,ci,e0⟩:=zI d0
   obtain⟨av,cv,e1⟩:=xq d1
   rw [e0] at c0 d0
   rw [e1] at c1 d1
   have hCr:∀ b o,C b o->b<wr.heap.size:=fun b o h=>by have:=hC b o h;omega
   have hGr:GL C wr:=HGL.out.mono (fun _ _ h=>h) fun b o x hc hx=>HKR.out.cell_some hx (by have:=hC b o hc;show ¬ w.heap.size<=b;omega)
   have hdm:∀(x:Value) (p:PV),Dat C w x p->∀ W,Below wr.heap.size wr W->Dat C W x p:=fun x p h W hW=>h.mono (fun _ _ h=>h) fun b o x hc hx=>(World.cell?_of_block (a:=⟨b,o,none⟩) (hW.block b (hCr b o hc))).trans (HKR.out.cell_some hx (by have:=hC b o hc;show ¬ w.heap.size<=b;omega))
   have hGW:∀ W,Below wr.heap.size wr W->GL C W:=fun W hW=>hGr.mono (fun _ _ h=>h) fun b o x hc hx=>(World.cell?_of_block (a:=⟨b,o,none⟩) (hW.block b (hCr b o hc))).trans hx
   have hcan:Calls Tryz.prog 49 #[.slice av f.vec.length cv] wr fun e w'=>∃ a c,e=.returned (.slice a (zh f.vec).length c)/\Below wr.heap.size wr w'/\Dat (DX C mb w' (.slice ad o.length cap)) w' (.slice a (zh f.vec).length c) (vp (zh f.vec)):=by
    refine(vL (D:=C) (VJ f.vec hfr.2 hsm.2.1 hsm.2.2) (hGW wr (Below.refl _ _)) hCr rfl (fun i p hp=>?_)).mono ?_
    ·match i,hp with
     | 0,hp=>cases hp;exact hdm _ _ d1 wr (Below.refl _ _)
     | i+1,hp=>simp at hp
    ·rintro e w' ⟨v,rfl,hb,hd⟩
     obtain⟨a,c,rfl⟩:=xq hd
     have hsu:=HOUT.out.owns
     refine⟨a,c,rfl,hb,hd.mono (fun b o h=>?_) fun _ _ _ _ h=>h⟩
     rcases h with h | h
     ·exact⟨.inl h,fun e=>by have:=(hsu b e).1;have:=hC b o h;omega⟩
     ·exact⟨.inr ⟨by omega,h.2⟩,fun e=>by have:=(hsu b e).2;omega⟩
   have HCAN:=Lib.hid hcan
   have HGW:=Lib.hid hGW
   have HDM:=Lib.hid hdm
   have HD0:=Lib.hid d0
   have HGT:=Lib.hid hgt
   have HWV:=Lib.hid hwv
   have HWF:=Lib.hid hwf
   have HNR:=Lib.hid hnr
   have HOI:=Lib.hid hoi
   have HFR:=Lib.hid hfr.1
   have HCR:=Lib.hid hCr
   have HOW:=Lib.hid HOUT.out.owns
   have HSR:=Lib.hid hsrt
   have hCv:∀ b o',C b o'->(Value.slice ad o.length cap).ownBlock≠some b:=fun b _ h e=>by have:=(HOUT.out.owns b e).1;have:=hC b _ h;omega
   have HCV:=Lib.hid hCv
   have HC:=Lib.hid hC
   clear hcan hGW hdm d0 d1 hgt hwv hwf hnr hoi hfr hsm hCr hsrt hao hfm hkt hGr e0 e1 hcel hCv hC ho hout hkr
   have tokA:True:=trivial
   obtain⟨wo,hwo⟩:∃ wo,wo=wr:=⟨_,rfl⟩
   subst hwo
   by_cases h1:0<(zh f.vec).length
   ·have b1:(((zh f.vec).length:Int) == 0)=false:=beq_eq_false_iff_ne.2 (by omega)
    by_cases h2:0<f.items.length
    ·have b2:((f.items.length:Int) == 0)=false:=beq_eq_false_iff_ne.2 (by omega)
     have hne:¬(zh f.vec=[]\/f.items=[]):=fun e=>by
      rcases e with e | e
      ·rw [e] at h1;simp at h1
      ·rw [e] at h2;simp at h2
     have HNE:=Lib.hid hne
     obtain⟨i,hi,q1,q2⟩:=Zn (zh f.vec) HSR.out
     have HQ1:=Lib.hid q1
     have HQ2:=Lib.hid q2
     have HIN:=Lib.hid (Q6 (f:=⟨f.items,zh f.vec⟩) hi q1 q2)
     clear q1 q2 hne
     go_wp2_with (first
      | (go_at_call 49;have _t:=tokA;refine HCAN.out.mono ?_;rintro e w3 ⟨a3,n3,rfl,hb3,hd3⟩
         have c3:=(hb3.cell (p:=⟨bb,off+j * 2,none⟩) (by show bb<_;omega)).trans c0
         have HB3:=Lib.hid hb3
         have HD3:=Lib.hid hd3
         have hs3:=hb3.size
         clear hb3 hd3 tokA)
      | go_in)
     go_loopg [6] i (fun g x w2=>∃ a,a<=i/\g=i - a/\x=.int .i64 a/\Below w3.heap.size w3 w2)
     case atStart=>exact⟨0,Nat.zero_le _,rfl,rfl,Below.refl _ _⟩
     case round=>
      obtain⟨a,ha,rfl,rfl,hB4⟩:=hrel
      have hB5:=HB3.out.trans (hB4.mono hs3)
      have hk2:=HOUT.out.keep (w':=wr) hB5.size fun b hb=>hB5.block b hb
      have hd4:=DX.keep HD3.out hB4.size fun b hb _=>hB4.block b hb
      have c4:=(hB4.cell (p:=⟨bb,off+j * 2,none⟩) (by show bb<_;omega)).trans c3
      have HB4:=Lib.hid hB4
      have HB5:=Lib.hid hB5
      have HK2:=Lib.hid hk2
      have HD4:=Lib.hid hd4
      have hs4:=hB4.size
      have hcmp:∀(a:Nat) (hal:a<o.length) (c:Int),zX (zo o[a].vec) (zo (zh f.vec))=c->∀(av2:Option Addr) (cv2:Nat),Dat (DX C mb wr (.slice ad o.length cap)) wr (.slice av2 o[a].vec.length cv2) (vp o[a].vec)->∀ W,Below wr.heap.size wr W->Calls Tryz.prog 50 #[.slice av2 o[a].vec.length cv2,.slice a3 (zh f.vec).length n3] W fun e w'=>e=.returned (.int .i64 c)/\Below W.heap.size W w':=fun a hal c hc av2 cv2 hd W hW=>
       zfx c hc (HWV.out _ (List.getElem_mem hal)) HWF.out (DX.keep hd hW.size fun b hb _=>hW.block b hb) (DX.keep HD4.out hW.size fun b hb _=>hW.block b hb) HCV.out (fun b o h=>by have:=HCR.out b o h;have:=hW.size;omega) (HGW.out W (HB5.out.trans (hW.mono HB5.out.size)))
      have HCMP:=Lib.hid hcmp
      clear hB4 hB5 hk2 hd4 hcmp
      by_cases hai:a<i
      ·have hal:a<o.length:=by omega
       obtain⟨g,ai2,ci2,av2,cv2,cur,rfl,hgb,hgc,x0,x1,da,db⟩:=HK2.out.at hal
       obtain⟨c,hc⟩:∃ c,zX (zo o[a].vec) (zo (zh f.vec))=c:=⟨_,rfl⟩
       have hcl:c<0:=by rw [<-hc];exact HQ1.out a hal hai
       have HCM:=Lib.hid (HCMP.out a hal c hc av2 cv2 db)
       clear da db hc hgc x0
       generalize o[a]=oa at *
       go_wp2_with (first
        | (go_at_call 50;refine(HCM.out _ (Below.refl _ _)).mono ?_;rintro e w5 ⟨rfl,hb5⟩;have HB6:=Lib.hid hb5;clear hb5)
        | go_in)
       go_roundg (i - (a+1))
       case measure=>omega
       case rel=>exact⟨a+1,hai,rfl,by simp,HB4.out.trans (HB6.out.mono hs4)⟩
      ·obtain rfl:a=i:=by omega
       by_cases hil:a<o.length
       ·obtain⟨g,ai2,ci2,av2,cv2,cur,rfl,hgb,hgc,x0,x1,da,db⟩:=HK2.out.at hil
        obtain⟨c,hc⟩:∃ c,zX (zo o[a].vec) (zo (zh f.vec))=c:=⟨_,rfl⟩
        have hcl:¬ c<0:=by rw [<-hc];exact HQ2.out a hil (Nat.le_refl _)
        have HCM:=Lib.hid (HCMP.out a hil c hc av2 cv2 db)
        have HC0:=Lib.hid hc
        have HDA:=Lib.hid da
        have HGC:=Lib.hid hgc
        have HX0:=Lib.hid x0
        clear da db hc hgc x0
        have tokB:True:=trivial
        have tokC:True:=trivial
        obtain⟨oa,hoa⟩:∃ oa,oa=o[a]:=⟨_,rfl⟩
        rw [<-hoa] at x1 HCM HC0 HDA HX0
        have HOA:=Lib.hid hoa
        clear hoa
        by_cases hz:c=0
        ·go_wp2_with (first
          | (go_at_call 50;have _t:=tokB;refine(HCM.out _ (Below.refl _ _)).mono ?_;rintro e w5 ⟨rfl,hb5⟩
             have y1:=(hb5.cell (p:=⟨g,a * 2+1,none⟩) (World.block_lt_of_cell? wr ⟨g,a * 2+1,none⟩ x1)).trans x1
             have HB6:=Lib.hid hb5;clear hb5 tokB)
          | (go_at_call 50;have _t:=tokC;refine(HCM.out _ HB6.out).mono ?_;rintro e w6 ⟨rfl,hb5⟩;have HB7:=Lib.hid (HB6.out.trans (hb5.mono HB6.out.size));clear hb5 tokC)
          | go_in)
         have hcD:Below w6.heap.size w6 w6.drew:=(Below.refl _ _).drew
         have hgl:g<wr.heap.size:=World.block_lt_of_cell? wr ⟨g,a * 2+1,none⟩ x1
         have z0:=(HB7.out.cell (p:=⟨g,a * 2,none⟩) hgl).trans HX0.out
         have z1:=(HB7.out.cell (p:=⟨g,a * 2+1,none⟩) hgl).trans x1
         have z4:=(HB7.out.cell (p:=⟨bb,off+j * 2,none⟩) (by show bb<_;omega)).trans c4
         have hs7:=HB7.out.size
         have hun:∀ W,Below w6.heap.size w6 W->Calls Tryz.prog 51 #[.slice ai2 oa.items.length ci2,.slice ai f.items.length ci] W fun e w'=>∃ u,e=.returned u/\Below W.heap.size W w'/\Dat (DX C mb w' (.slice (some ⟨g,0,none⟩) o.length cap)) w' u (rg (qu zn oa.items f.items)):=fun W hW=>by
          have hBW:=HB7.out.trans (hW.mono hs7)
          have hBo:=HB5.out.trans (hBW.mono HB5.out.size)
          have hmo:oa ∈ o:=by rw [HOA.out];exact List.getElem_mem hil
          refine zcD (HNR.out _ hmo) HFR.out (by have:=HOI.out _ hmo;omega) (by omega) (DX.keep HDA.out hBW.size fun b hb _=>hBW.block b hb) ((HDM.out _ _ HD0.out W hBo).mono (fun b o' h=>⟨.inl h,HCV.out b o' h⟩) fun _ _ _ _ h=>h) (fun b hb=>by have:=(HOW.out b hb).2;have:=hBo.size;omega) HCV.out (fun b o h=>by have:=HCR.out b o h;have:=hBo.size;omega) (by have:=hBo.size;omega) (HGW.out W hBo)
         have HUN:=Lib.hid hun
         clear hun
         have mixed:Tryz.prog.follows .mixedOrders=true:=by kernel_rfl
         obtain⟨wz,hwz⟩:∃ wz,wz=w6:=⟨_,rfl⟩
         subst hwz
         refine VQ (Sw:=qb) 16 96 (fun w9=>Below wz.heap.size wz w9/\w9.cell? ⟨g,a * 2,none⟩=some (.slice ai2 oa.items.length ci2)/\w9.cell? ⟨bb,off+j * 2,none⟩=some (.slice ai f.items.length ci)) (by kernel_rfl) (by kernel_rfl) rfl ⟨hcD,z0,z4⟩ ?_
         simp only [List.take_succ_cons,List.take_zero]
         refine Vb ?_
         refine XL (fun u w9=>Dat (DX C mb w9 (.slice (some ⟨g,0,none⟩) o.length cap)) w9 u (rg (qu zn oa.items f.items))) (fun u wa wb h hk=>DX.keep h hk.size fun k hk2 _=>hk.block k hk2 id) rfl ?_ ?_
         ·intro a2 w2 hc hk hr K hK
          have HK:=Lib.hid hK
          clear hK
          simp [Rds,zv,lk,Op.operands,Call.operands,RdEq] at hr
          go_simp
          refine(HUN.out _ hc.1).mono ?_
          rintro e w3 ⟨u,rfl,hb,hd⟩
          have hkb:Keep qb _ w3:=Keep.of_below' hb (Nat.le_refl _)
          exact HK.out _ _ hkb ⟨hc.1.trans (hb.mono hc.1.size),hkb.cell_some hc.2.1 id,hkb.cell_some hc.2.2 id⟩ hd
         dsimp only [List.nil_append,List.cons_append]
         refine Vb ?_
         refine XL (fun u w9=>∃ au cu,u=.agg #[.slice au (qu zn oa.items f.items).length cu,.slice a3 (zh f.vec).length n3]/\Dat (DX C mb w9 (.slice (some ⟨g,0,none⟩) o.length cap)) w9 (.slice au (qu zn oa.items f.items).length cu) (rg (qu zn oa.items f.items))) (fun u wa wb h hk=>by obtain⟨au,cu,e,h⟩:=h;exact⟨au,cu,e,DX.keep h hk.size fun k hk2 _=>hk.block k hk2 id⟩) rfl ?_ ?_
         ·intro a2 w2 hc hk hr K hK
          have HK:=Lib.hid hK
          clear hK
          simp [Rds,zv,lk,Op.operands,Call.operands,RdEq] at hr
          obtain⟨⟨u,⟨e1,e2⟩,hu⟩,e3,e4⟩:=hr
          obtain⟨au,cu,rfl⟩:=zI hu
          go_simp
          exact HK.out _ _ (Keep.refl _ _) hc ⟨au,cu,rfl,hu⟩
         dsimp only [List.nil_append,List.cons_append]
         refine Vb ?_
         intro w2 hc2 hk2
         simp only [finG,forall_eq,List.nil_append,List.cons_append,List.drop_succ_cons,List.drop_zero,List.drop_nil]
         simp only [Act.put,List.setIfInBounds_toArray,List.set_cons_succ,List.set_cons_zero]
         rintro _ _ _ ⟨au,cu,rfl,hu⟩
         have HB8:=Lib.hid hc2.1
         have HU:=Lib.hid hu
         have hs8:=hc2.1.size
         have r0:=hc2.2.1
         have r1:=(hc2.1.cell (p:=⟨g,a * 2+1,none⟩) (by show g<_;omega)).trans z1
         have hgc:w2.heap[g]? = some (.cells cur 39 (0,0)):=(hc2.1.block g (by omega)).trans ((HB7.out.block g hgl).trans HGC.out)
         have s0:w2.frozen? ⟨g,a * 2,none⟩=false:=by simp [World.frozen?,hgc]
         have s1:w2.frozen? ⟨g,a * 2+1,none⟩=false:=by simp [World.frozen?,hgc]
         have hcap:0<cap:=by omega
         clear hu hc2 hk2 hgc
         go_wp2_with fail
         go_roundg (k.length - (j+1))
         case measure=>omega
         case rel=>
          have hbz:=HB7.out.trans (HB8.out.mono HB7.out.size)
          have hk8:=(HK2.out.keep hbz.size fun b hb=>hbz.block b hb).set hil HU.out hcap
          have hve:o[a].vec=zh f.vec:=by
           have:=HC0.out
           rw [HOA.out,hz] at this
           exact QP this
          have hlen:(o.take a++(⟨qu zn oa.items f.items,o[a].vec⟩:Fg)::o.drop (a+1)).length=o.length:=by simp;omega
          have hg1:(o.take a++(⟨qu zn oa.items f.items,o[a].vec⟩:Fg)::o.drop (a+1))[a]'(by omega)=⟨qu zn oa.items f.items,o[a].vec⟩:=by
           rw [List.getElem_append_right (by rw [List.length_take];exact Nat.min_le_left _ _)]
           simp [Nat.min_eq_left (Nat.le_of_lt hil)]
          have hbk:(Value.slice (some ⟨g,0,none⟩) o.length cap).ownBlock=some g:=by
           cases cap with
           | zero=>omega
           | succ c=>rfl
          refine⟨j+1,hlt,rfl,by simp,?_,?_⟩
          ·have hfin:=hk8.setV (i:=a) (a0:=.slice a3 (zh f.vec).length n3) hlen (by omega) (by
            rw [hg1]
            show Dat _ _ _ (vp o[a].vec)
            rw [hve]
            refine DX.keep HD4.out (by simp;exact hbz.size) fun b hb hne=>?_
            rw [Below.heap_setCell _ _ _ _ (fun e=>hne (by rw [hbk];exact congrArg some e.symm))]
            exact hbz.block b hb) hcap
           rw [HGT.out,yi,if_neg HNE.out,HIN.out,dif_pos hil,if_pos (by have:=HC0.out;rw [HOA.out,hz] at this;exact this)]
           rw [<-HOA.out]
           rw [hve] at hfin
           exact hfin
          ·exact(((HKR.out.trans (Keep.of_below' HB5.out (Nat.le_refl _))).trans (Keep.of_below' hbz (Nat.le_refl _))).setCell (fun _=>hgb) _).setCell (fun _=>hgb) _
        ·have hcq:¬(c=0):=hz
         go_wp2_with (first
          | (go_at_call 50;have _t:=tokB;refine(HCM.out _ (Below.refl _ _)).mono ?_;rintro e w5 ⟨rfl,hb5⟩
             have y1:=(hb5.cell (p:=⟨g,a * 2+1,none⟩) (World.block_lt_of_cell? wr ⟨g,a * 2+1,none⟩ x1)).trans x1
             have HB6:=Lib.hid hb5;clear hb5 tokB)
          | (go_at_call 50;have _t:=tokC;refine(HCM.out _ HB6.out).mono ?_;rintro e w6 ⟨rfl,hb5⟩;have HB7:=Lib.hid (HB6.out.trans (hb5.mono HB6.out.size));clear hb5 tokC)
          | go_in)
         obtain⟨wz,hwz⟩:∃ wz,wz=w6:=⟨_,rfl⟩
         subst hwz
         have hBz:Below wr.heap.size wr wz:=HB7.out
         have hs7:=hBz.size
         have hsw:=HB5.out.size
         obtain⟨xs,hxs,hel⟩:=HK2.out.keep hBz.size fun b hb=>hBz.block b hb
         have hxl:=hxs.2.1
         have HXS:=Lib.hid hxs
         have HEL:=Lib.hid hel
         have mixed:Tryz.prog.follows .mixedOrders=true:=by kernel_rfl
         have hone:∀ u ∈ xs.take (a * 2),u.oneCell'=true:=fun u hu=>hxs.2.2 u (List.mem_of_mem_take hu)
         have hone2:∀ u ∈ xs.drop (a * 2),u.oneCell'=true:=fun u hu=>hxs.2.2 u (List.mem_of_mem_drop hu)
         have hone1:∀ u ∈ [(.slice ai f.items.length ci:Value),.slice a3 (zh f.vec).length n3],u.oneCell'=true:=yu rfl rfl
         have hcells:∀ g0,(some (⟨g,0,none⟩:Addr))=some ⟨g0,0,none⟩->∀ W,Below wz.heap.size wz W->∀ j u,xs[j]? = some u->W.cell? ⟨g0,j,none⟩=some u:=fun g0 hg W hW j u hx=>by
          have h9:=World.ownsRow.cells HXS.out.1 (g:=g0) (by rw [hg];rfl) j u hx
          rw [zi,Nat.zero_add] at h9
          exact(hW.cell (p:=⟨g0,j,none⟩) (World.block_lt_of_cell? wz ⟨g0,j,none⟩ h9)).trans h9
         have HCELLS:=Lib.hid hcells
         have z4:=(hBz.cell (p:=⟨bb,off+j * 2,none⟩) (by show bb<_;omega)).trans c4
         have hfin:∀(v:Value) (W:World),Below wz.heap.size wz W->W.ownsRow wz.heap.size 39 2 v (0+a+1+(o.length - a)) ([]++xs.take (a * 2)++[Value.slice ai f.items.length ci,Value.slice a3 (zh f.vec).length n3]++xs.drop (a * 2)) ->
          OutG C mb w.heap.size W v (zE (k.take (j+1)))/\Keep (fun b=>w.heap.size<=b) w W:=fun v W hW ho=>by
          have hbz:=hBz.trans (hW.mono hs7)
          have hi:zE (k.take (j+1))=o.take a++⟨f.items,zh f.vec⟩::o.drop a:=by
           rw [HGT.out,yi,if_neg HNE.out,HIN.out]
           rw [dif_pos hil,if_neg (by have:=HC0.out;rw [HOA.out] at this;rw [this];exact hcq)]
          refine⟨?_,((HKR.out.trans (Keep.of_below' HB5.out (Nat.le_refl _))).trans (Keep.of_below' hbz (Nat.le_refl _)))⟩
          rw [hi]
          have hp:Dat (DX C mb wz (.slice (some ⟨g,0,none⟩) o.length cap)) wz (.slice ai f.items.length ci) (rg f.items):=(HDM.out _ _ HD0.out wz (HB5.out.trans (hBz.mono hsw))).mono (fun b o' h=>⟨.inl h,HCV.out b o' h⟩) fun _ _ _ _ h=>h
          have hq:Dat (DX C mb wz (.slice (some ⟨g,0,none⟩) o.length cap)) wz (.slice a3 (zh f.vec).length n3) (vp (zh f.vec)):=DX.keep HD4.out hs7 fun b hb _=>hBz.block b hb
          have hown:W.ownsRow wz.heap.size 39 2 v (o.length+1) (xs.take (a * 2)++[Value.slice ai f.items.length ci,Value.slice a3 (zh f.vec).length n3]++xs.drop (a * 2)):=by
           have e1:0+a+1+(o.length - a)=o.length+1:=by omega
           rw [e1,List.nil_append] at ho
           exact ho
          refine OutG.insK (f:=⟨f.items,zh f.vec⟩) (Nat.le_of_lt hil) HXS.out.2.1 HEL.out hp hq (fun h=>DX.new h (fun b o h=>by have:=HCR.out b o h;omega) hW fun k hk=>(hown.lt k hk).1) ⟨Xe hown (by omega),?_,?_⟩
          ·simp [hxl];omega
          ·intro u hu
           rcases List.mem_append.1 hu with hu | hu
           ·rcases List.mem_append.1 hu with hu | hu
            ·exact HXS.out.2.2 u (List.mem_of_mem_take hu)
            ·exact yu rfl rfl u hu
           ·exact HXS.out.2.2 u (List.mem_of_mem_drop hu)
         have HFIN:=Lib.hid hfin
         have HONE:=Lib.hid hone
         clear hfin hcells hxs hel
         have hn1:∀ W:World,Below wz.heap.size wz W->(a=0/\(some (⟨g,0,none⟩:Addr))=none)\/∃ a',some (⟨g,0,none⟩:Addr)=some a'/\∀ j u,(xs.take (a * 2))[j]? = some u->W.cell? (a'.add j)=some u:=fun W hB=>.inr ⟨_,rfl,fun j u h=>by
          rw [zi,Nat.zero_add]
          rw [List.getElem?_take] at h
          split at h
          ·exact HCELLS.out g rfl W hB j u h
          ·cases h⟩
         have hn2:∀ W:World,Below wz.heap.size wz W->(o.length - a=0/\(some (⟨g,a * 2,none⟩:Addr))=none)\/∃ a',some (⟨g,a * 2,none⟩:Addr)=some a'/\∀ j u,(xs.drop (a * 2))[j]? = some u->W.cell? (a'.add j)=some u:=fun W hB=>.inr ⟨_,rfl,fun j u h=>by
          rw [zi]
          rw [List.getElem?_drop] at h
          exact HCELLS.out g rfl W hB _ u h⟩
         have HN1:=Lib.hid hn1
         have HN2:=Lib.hid hn2
         have hck:¬(cap=a):=by omega
         have hbbz:bb<wz.heap.size:=by omega
         have hkc:a<=cap:=by omega
         have hkl2:a<=o.length:=by omega
         clear hn1 hn2
         go_region_law_o (first
          | (refine yw (.tmp 77) (.tmp 80) 23 rfl rfl Tryz.underlying23 wz.heap.size (.slice (some ⟨_,0,none⟩) 0 0) 0 [] rfl (zbH (by omega) (by first | exact World.alloc_heap_new _ _ | exact World.alloc_heap_new wz _ | exact jY _ _ _ | exact jZ _ _ _ | exact jY wz _ _ | exact jZ wz _ _)) _ a _ (xs.take (a * 2)) rfl (by simp [hxl]<;>omega) (HN1.out _ (by first | exact zai _ _ | exact zcT _ _ _)) hone (by omega) (by simp<;>omega) ?_
             intro v37 w37 ho37 hg37 hb37
             have b1:Below wz.heap.size wz w37:=by first | exact(zai wz _).grown hg37 (by simp<;>omega) (fun j hj=>by simp [Value.ownBlock] at hj;omega) | exact(zcT wz _ _).grown hg37 (by simp<;>omega) (fun j hj=>by simp [Value.ownBlock] at hj;omega)
             have z37:=(b1.cell (p:=⟨bb,off+j * 2,none⟩) (by show bb<_;omega)).trans z4)
          | (refine yw (.tmp 81) (.tmp 89) 23 rfl rfl Tryz.underlying23 wz.heap.size _ (0+a) ([]++xs.take (a * 2)) rfl (by first | exact ho37 | exact ho37.alloc _) _ 1 _ [Value.slice ai f.items.length ci,Value.slice a3 (zh f.vec).length n3] rfl rfl (.inr ⟨_,rfl,x7 (vt := 39) (by first | exact World.alloc_heap_new w37 _ | exact(hg37.block _ (by simp<;>omega) (by simp [Value.ownBlock]<;>omega)).trans (jY wz _ _) | exact(hg37.block _ (by simp<;>omega) (by simp [Value.ownBlock]<;>omega)).trans (jZ wz _ _))⟩) hone1 (by omega) (by have:=hg37.size;simp at this ⊢<;>omega) ?_
             intro v40 w40 ho40 hg40 hb40
             have b2:Below wz.heap.size wz w40:=by first | exact b1.grown hg40 b1.size (fun j hj=>(ho37.lt j hj).1) | exact(b1.alloc b1.size _).grown hg40 (by have:=b1.size;simp<;>omega) (fun j hj=>(ho37.lt j hj).1))
          | (refine yw (.tmp 90) (.tmp 93) 23 rfl rfl Tryz.underlying23 wz.heap.size _ (0+a+1) ([]++xs.take (a * 2)++[Value.slice ai f.items.length ci,Value.slice a3 (zh f.vec).length n3]) rfl ho40 _ ((o.length - a)) _ (xs.drop (a * 2)) rfl (by simp [hxl]<;>omega) (HN2.out _ b2) hone2 (by omega) b2.size ?_
             intro v44 w44 ho44 hg44 hb44
             have HR:=Lib.hid (HFIN.out v44 w44 (b2.grown hg44 b2.size fun j hj=>(ho40.lt j hj).1) ho44)
             clear ho44 hg44 hb44))
         all_goals (go_wp2_with fail;all_goals (go_roundg (k.length - (j+1));(case measure=>omega);(case rel=>exact⟨j+1,hlt,rfl,by simp,HR.out.1,HR.out.2⟩)))
       ·obtain rfl:a=o.length:=by omega
        have tokB:True:=trivial
        go_wp2_with fail
        obtain⟨wz,hwz⟩:∃ wz,wz=wr:=⟨_,rfl⟩
        subst hwz
        have hsw:=HB5.out.size
        obtain⟨xs,hxs,hel⟩:=HK2.out
        have hxl:=hxs.2.1
        have HXS:=Lib.hid hxs
        have HEL:=Lib.hid hel
        have mixed:Tryz.prog.follows .mixedOrders=true:=by kernel_rfl
        have hone:∀ u ∈ xs,u.oneCell'=true:=hxs.2.2
        have hone0:∀ u ∈ ([]:List Value),u.oneCell'=true:=fun u hu=>by cases hu
        have hone1:∀ u ∈ [(.slice ai f.items.length ci:Value),.slice a3 (zh f.vec).length n3],u.oneCell'=true:=yu rfl rfl
        have hn1:∀ W:World,Below wz.heap.size wz W->(o.length=0/\ad=none)\/∃ a',ad=some a'/\∀ j u,xs[j]? = some u->W.cell? (a'.add j)=some u:=fun W hW=>by
         rcases HXS.out.cases with⟨e,e2,rfl⟩ | ⟨g,cap',cur,e,_⟩
         ·cases ad with
          | none=>exact .inl ⟨e2,rfl⟩
          | some a=>exact .inr ⟨a,rfl,fun j u h=>by simp at h⟩
         ·obtain⟨rfl,_,rfl⟩:ad=some ⟨g,0,none⟩/\o.length=o.length/\cap=cap':=by simpa using e
          refine .inr ⟨_,rfl,fun j u hx=>?_⟩
          have h9:=World.ownsRow.cells HXS.out.1 (g:=g) rfl j u hx
          rw [zi,Nat.zero_add] at h9 ⊢
          exact(hW.cell (p:=⟨g,j,none⟩) (World.block_lt_of_cell? wz ⟨g,j,none⟩ h9)).trans h9
        have hn2:(0=0/\(if cap=o.length then ad else Option.map (fun x=>x.add (o.length * 2)) ad)=none)\/∃ a',(if cap=o.length then ad else Option.map (fun x=>x.add (o.length * 2)) ad)=some a':=by
         cases ad<;>simp
         split<;>simp
        have HN1:=Lib.hid hn1
        have HN2:=Lib.hid hn2
        have hfin:∀(v:Value) (W:World),Below wz.heap.size wz W->W.ownsRow wz.heap.size 39 2 v (0+o.length+1+0) ([]++xs++[Value.slice ai f.items.length ci,Value.slice a3 (zh f.vec).length n3]++[]) ->
         OutG C mb w.heap.size W v (zE (k.take (j+1)))/\Keep (fun b=>w.heap.size<=b) w W:=fun v W hW ho=>by
         have hi:zE (k.take (j+1))=o.take o.length++⟨f.items,zh f.vec⟩::o.drop o.length:=by
          rw [HGT.out,yi,if_neg HNE.out,HIN.out,dif_neg (Nat.lt_irrefl _),List.take_length,List.drop_length]
         refine⟨?_,((HKR.out.trans (Keep.of_below' HB5.out (Nat.le_refl _))).trans (Keep.of_below' hW (Nat.le_refl _)))⟩
         rw [hi]
         have hp:Dat (DX C mb wz (.slice ad o.length cap)) wz (.slice ai f.items.length ci) (rg f.items):=(HDM.out _ _ HD0.out wz HB5.out).mono (fun b o' h=>⟨.inl h,HCV.out b o' h⟩) fun _ _ _ _ h=>h
         have hown:W.ownsRow wz.heap.size 39 2 v (o.length+1) (xs.take (o.length * 2)++[Value.slice ai f.items.length ci,Value.slice a3 (zh f.vec).length n3]++xs.drop (o.length * 2)):=by
          have e1:0+o.length+1+0=o.length+1:=by omega
          rw [e1,List.nil_append] at ho
          rw [List.take_of_length_le (by omega),List.drop_of_length_le (by omega)]
          exact ho
         refine OutG.insK (f:=⟨f.items,zh f.vec⟩) (Nat.le_refl _) HXS.out.2.1 HEL.out hp HD4.out (fun h=>DX.new h (fun b o h=>by have:=HCR.out b o h;omega) hW fun k hk=>(hown.lt k hk).1) ⟨Xe hown (by omega),?_,?_⟩
         ·simp [hxl];omega
         ·intro u hu
          rcases List.mem_append.1 hu with hu | hu
          ·rcases List.mem_append.1 hu with hu | hu
           ·exact HXS.out.2.2 u (List.mem_of_mem_take hu)
           ·exact yu rfl rfl u hu
          ·exact HXS.out.2.2 u (List.mem_of_mem_drop hu)
        have HFIN:=Lib.hid hfin
        have hbbz:bb<wz.heap.size:=by omega
        have z4:=c4
        clear hfin hxs hel hn1 hn2
        go_region_law_o (first
         | (refine yw (.tmp 77) (.tmp 80) 23 rfl rfl Tryz.underlying23 wz.heap.size (.slice (some ⟨_,0,none⟩) 0 0) 0 [] rfl (zbH (by omega) (by first | exact World.alloc_heap_new _ _ | exact World.alloc_heap_new wz _ | exact jY _ _ _ | exact jZ _ _ _ | exact jY wz _ _ | exact jZ wz _ _)) _ o.length _ xs rfl (by simp [hxl]<;>omega) (HN1.out _ (by first | exact zai _ _ | exact zcT _ _ _)) hone (by omega) (by simp<;>omega) ?_
            intro v37 w37 ho37 hg37 hb37
            have b1:Below wz.heap.size wz w37:=by first | exact(zai wz _).grown hg37 (by simp<;>omega) (fun j hj=>by simp [Value.ownBlock] at hj;omega) | exact(zcT wz _ _).grown hg37 (by simp<;>omega) (fun j hj=>by simp [Value.ownBlock] at hj;omega)
            have z37:=(b1.cell (p:=⟨bb,off+j * 2,none⟩) (by show bb<_;omega)).trans z4)
         | (refine yw (.tmp 81) (.tmp 89) 23 rfl rfl Tryz.underlying23 wz.heap.size _ (0+o.length) ([]++xs) rfl (by first | exact ho37 | exact ho37.alloc _) _ 1 _ [Value.slice ai f.items.length ci,Value.slice a3 (zh f.vec).length n3] rfl rfl (.inr ⟨_,rfl,x7 (vt := 39) (by first | exact World.alloc_heap_new w37 _ | exact(hg37.block _ (by simp<;>omega) (by simp [Value.ownBlock]<;>omega)).trans (jY wz _ _) | exact(hg37.block _ (by simp<;>omega) (by simp [Value.ownBlock]<;>omega)).trans (jZ wz _ _))⟩) hone1 (by omega) (by have:=hg37.size;simp at this ⊢<;>omega) ?_
            intro v40 w40 ho40 hg40 hb40
            have b2:Below wz.heap.size wz w40:=by first | exact b1.grown hg40 b1.size (fun j hj=>(ho37.lt j hj).1) | exact(b1.alloc b1.size _).grown hg40 (by have:=b1.size;simp<;>omega) (fun j hj=>(ho37.lt j hj).1))
         | (refine yw (.tmp 90) (.tmp 93) 23 rfl rfl Tryz.underlying23 wz.heap.size _ (0+o.length+1) ([]++xs++[Value.slice ai f.items.length ci,Value.slice a3 (zh f.vec).length n3]) rfl ho40 _ 0 _ ([]) rfl (by simp) (by rcases HN2.out with h | ⟨a,h⟩;exact .inl h;exact .inr ⟨a,h,fun j u hj=>by simp at hj⟩) hone0 (by omega) b2.size ?_
            intro v44 w44 ho44 hg44 hb44
            have HR:=Lib.hid (HFIN.out v44 w44 (b2.grown hg44 b2.size fun j hj=>(ho40.lt j hj).1) ho44)
            clear ho44 hg44 hb44))
        all_goals (go_wp2_with fail;all_goals (go_roundg (k.length - (j+1));(case measure=>omega);(case rel=>exact⟨j+1,hlt,rfl,by simp,HR.out.1,HR.out.2⟩)))
    ·have h0:f.items=[]:=by cases hf:f.items with | nil=>rfl | cons a l=>rw [hf] at h2;simp at h2
     have b2:((f.items.length:Int) == 0)=true:=by rw [h0];rfl
     have H0:=Lib.hid h0
     clear h0
     go_wp2_with (first
      | (go_at_call 49;have _t:=tokA;refine HCAN.out.mono ?_;rintro e w3 ⟨a3,n3,rfl,hb3,hd3⟩
         have c3:=(hb3.cell (p:=⟨bb,off+j * 2,none⟩) (by show bb<_;omega)).trans c0
         have HB3:=Lib.hid hb3
         clear hb3 hd3 tokA)
      | go_in)
     go_roundg (k.length - (j+1))
     case measure=>omega
     case rel=>
      refine⟨j+1,hlt,rfl,by simp,?_,HKR.out.trans (Keep.of_below' HB3.out (Nat.le_refl _))⟩
      rw [HGT.out,yi,if_pos (.inr H0.out)]
      exact HOUT.out.keep HB3.out.size fun b hb=>HB3.out.block b hb
   ·have h0:zh f.vec=[]:=by cases hf:zh f.vec with | nil=>rfl | cons a l=>rw [hf] at h1;simp at h1
    have b1:(((zh f.vec).length:Int) == 0)=true:=by rw [h0];rfl
    have H0:=Lib.hid h0
    clear h0
    go_wp2_with (first
     | (go_at_call 49;have _t:=tokA;refine HCAN.out.mono ?_;rintro e w3 ⟨a3,n3,rfl,hb3,hd3⟩
        have HB3:=Lib.hid hb3
        clear hb3 hd3 tokA)
     | go_in)
    go_roundg (k.length - (j+1))
    case measure=>omega
    case rel=>
     refine⟨j+1,hlt,rfl,by simp,?_,HKR.out.trans (Keep.of_below' HB3.out (Nat.le_refl _))⟩
     rw [HGT.out,yi,if_pos (.inl H0.out)]
     exact HOUT.out.keep HB3.out.size fun b hb=>HB3.out.block b hb
  ·obtain rfl:j=k.length:=by omega
   go_wp2_with fail
   refine bodyPost_ret (results_tmp rfl _ _ _) rfl ?_
   refine⟨_,rfl,HKR.out,?_⟩
   by_cases h0:1<=w.heap.size
   ·have h:=HOUT.out.dat (by omega)
    rw [HO.out,List.take_length] at h
    refine(show Dat (DL C mb wr) wr _ (kp (zE k)) from by rw [HO.out,List.take_length];exact h).mono (fun b o h=>h.imp id fun h=>⟨by omega,h.2⟩) fun _ _ _ _ h=>h
   ·have hk0:k=[]:=by
     cases k with
     | nil=>rfl
     | cons f l=>
       obtain⟨bb,off,_,hbn,_⟩:=HROW.out.2.2 (by intro e;subst e;simp at hl)
       omega
    have ho0:o=[]:=by rw [HO.out,hk0];rfl
    subst ho0
    subst hk0
    exact zdR (by unfold maxLen;omega)
theorem VL {B:Nat->List Nat} {R:List Nat} {n:Nat} (k:List Fg) (hk:Kn B R n k) (ok:OkX B R) (hn:n<=100000):Cn Tryz.prog 24 [kp k] (kp (zE k)):=by
 refine xx rfl (enters_of Tryz.func24 (by kernel_rfl) rfl) fun D w vs hG hD hsz hd=>?_
 rw [Ja hsz]
 refine(ZD D k _ w hk ok hn (hd 0 _ rfl) hD hG).mono ?_
 rintro e w' ⟨v,rfl,hb,hv⟩
 exact⟨v,rfl,hb.below (Nat.le_refl _) fun _ h h'=>by omega,hv⟩
end Go.Proofs.YtjimggclhlnfbaaGreat
namespace Go.Proofs.YtjimggclhlnfbaaGreat
open Go.RowKit
def ApI (k:List Fg):Prop:=∀ i j (hi:i<k.length) (hj:j<i),qu Qi k[i].items (k[j]'(by omega)).items=[]
theorem VI (k:List Fg) (r:Bool) (hr:r=true ↔ ApI k) (hn:∀ f ∈ k,Nrm f.items) (hl:∀ f ∈ k,f.items.length<=131072) (hk:k.length<=1152921504606846976):Cn Tryz.prog 20 [kp k] (.v (.bool r)):=by
 refine zz Tryz.func20 1 ?_
 refine pw ?_
 refine pLoop.go (fun i=>i<=k.length/\∀ i' j (hi:i'<k.length) (hj:j<i'),i'<i->qu Qi k[i'].items (k[j]'(by omega)).items=[]) (fun i=>[(3,.v (.int .i64 (i:Nat)))]) (fun _=>[]) (fun i=>k.length - i) 0 [3,4] ?_ ?_ ?_
 ·exact⟨Nat.zero_le _,fun i' j _ _ h=>absurd h (by omega)⟩
 ·exact pd
 ·rintro i ⟨hi,ha⟩
  refine pw ?_
  refine .i ?_ ?_<;>intro h<;>(try simp only [zf] at h)<;>first | refine pw ?_ | exact pd
  ·refine pLoop.go (fun j=>j<=i/\∀ j' (hj:j'<i),j'<j->qu Qi k[i].items (k[j']'(by omega)).items=[]) (fun j=>[(4,.v (.int .i64 (j:Nat)))]) (fun _=>[]) (fun j=>i - j) 0 [4] ?_ ?_ ?_
   ·exact⟨Nat.zero_le _,fun j' _ h=>absurd h (by omega)⟩
   ·exact pd
   ·rintro j ⟨hj,hb⟩
    refine pw ?_
    refine .i ?_ ?_<;>intro h2<;>(try simp only [zf] at h2)<;>first | refine pw ?_ | exact pd
    ·have hjl:j<k.length:=by omega
     refine .c (KO k[i].items k[j].items (hn _ (List.getElem_mem h)) (hn _ (List.getElem_mem hjl)) (hl _ (List.getElem_mem h)) (hl _ (List.getElem_mem hjl))) ?_
     refine .i ?_ ?_<;>intro h3<;>(try simp only [zf] at h3)<;>first | refine pw ?_ | exact pd
     ·have hno:¬ ApI k:=fun ha'=>by
       have:=ha' i j h h2
       rw [this] at h3
       simp at h3
      cases hrr:r with
      | false=>rfl
      | true=>exact absurd (hr.1 hrr) hno
     ·refine⟨j+1,⟨h2,fun j' hj' hlt=>?_⟩,by omega,rfl⟩
      rcases Nat.lt_or_ge j' j with h4 | h4
      ·exact hb j' hj' h4
      ·obtain rfl:j'=j:=by omega
       exact List.length_eq_zero_iff.1 (by omega)
    ·refine⟨i+1,⟨h,fun i' j1 hi' hj' hlt=>?_⟩,by omega,rfl⟩
     rcases Nat.lt_or_ge i' i with h4 | h4
     ·exact ha i' j1 hi' hj' h4
     ·obtain rfl:i'=i:=by omega
      exact hb j1 hj' (by omega)
  ·exact(hr.2 fun i' j hi' hj=>ha i' j hi' hj (by omega)).symm
theorem zeY:jU kA=true:=by decide
theorem jM:Cn Tryz.prog 9 [] (.v (.bool true)):=by
 have hk:=Kn.few zeY r12
 have ok:=JL zeY r12
 have h12:=hk.ok12 ok (by omega)
 have a1:=Qc kA h12.r h12.z (by decide) h12.t
 have a2:=Xk kA h12.r h12.z (by decide) h12.t
 rw [zjX] at a1
 rw [zjh] at a2
 have a3:=zcg kA h12
 have a4:=Js (qt kA) (hk.refine ok) ok (by omega)
 have e1:=zhW [0,1,4,6,10] [0,1,4,6,10] (by decide)
 have e2:=Yq [⟨1,3⟩,⟨4,5⟩,⟨6,9⟩] [⟨1,3⟩,⟨4,5⟩,⟨6,9⟩] (by decide)
 have l1:(qt kA).length=3:=by rw [zjI];rfl
 have l2:=zkv
 refine zz Tryz.func9 0 ?_
 refine pw ?_
 (first | refine .c (a1) ?_ | refine .o (a1) ?_)
 (first | refine .c (e1) ?_ | refine .o (e1) ?_)
 (first | refine .c (a2) ?_ | refine .o (a2) ?_)
 (first | refine .c (e2) ?_ | refine .o (e2) ?_)
 (first | refine .c (a3) ?_ | refine .o (a3) ?_)
 rw [l1]
 simp only [show (((3:Nat):Int)=3)=True from eq_true rfl,decide_true]
 refine pw ?_
 (first | refine .c (a3) ?_ | refine .o (a3) ?_)
 (first | refine .c (a4) ?_ | refine .o (a4) ?_)
 rw [l2]
 simp
def kK (k:List Fg):Bool:=jU k && decide ((ckK k).1=0)
theorem KQ (k:List Fg) (hb:BdK k):Cn Tryz.prog 8 [kp k] (.v (.bool (kK k))):=by
 unfold kK
 refine zz Tryz.func8 1 ?_
 refine pw ?_
 refine .c (zgh k hb) ?_
 refine .i ?_ ?_<;>intro h<;>(try simp only [zf] at h)<;>first | refine pw ?_ | exact pd
 ·refine .c (zbj k hb (zfJ h)) ?_
  simp [h]
 ·simp [h]
structure Rt12 (k:List Fg):Prop where
 f:jU k=true
 r:RightK k
 kn:Kn (CK k) (RK k) 240 k
 ok:OkX (CK k) (RK k)
theorem Xv {k:List Fg} (hb:BdK k) (h:kK k=true):Rt12 k:=by
 unfold kK at h
 rw [Bool.and_eq_true,decide_eq_true_eq] at h
 have hr:=(zc1 hb).1 h.2
 exact⟨h.1,hr,Kn.few h.1 hr,JL h.1 hr⟩
theorem Rt12.o {k:List Fg} (h:Rt12 k):Ok12 (CK k) (RK k) k:=h.kn.ok12 h.ok (by omega)
theorem QJ (k:List Fg) (x:Nat × Nat × Nat) (hk:BdK k) (hx:BdX x):Cn Tryz.prog 7 [kp k,xp x] (.v (.bool true)):=by
 obtain⟨r,hr⟩:∃ r:Bool,r=true ↔ ApI k:=by
  by_cases h:ApI k
  ·exact⟨true,by simp [h]⟩
  ·exact⟨false,by simp [h]⟩
 refine zz Tryz.func7 2 ?_
 refine pw ?_
 refine .c (KQ k hk) ?_
 refine .i ?_ ?_<;>intro h<;>(try simp only [zf] at h)<;>first | refine pw ?_ | exact pd
 ·exact .d (jM)
 ·have hR:=Xv hk h
  have ho:=hR.o
  have hg:=hR.kn.group hR.ok
  have hl:∀ f ∈ k,f.items.length<=131072:=fun f hf=>by have:=qN hf;have:=hR.kn.m;omega
  have hkl:=hR.kn.l
  refine .c (VI k r hr (fun f hf=>(hR.r f hf).1) hl (by omega)) ?_
  refine .i ?_ ?_<;>intro h2<;>(try simp only [zf] at h2)<;>first | refine pw ?_ | exact pd
  ·exact .d (jM)
  ·refine .c (Js k hR.kn hR.ok (by omega)) ?_
   refine .c (jM) ?_
   refine .c (VL k hR.kn hR.ok (by omega)) ?_
   refine .c (VM (zE k) (zE k) (hg.z (by omega))) ?_
   refine .c (zgi (zE k) x.1 x.2.1 x.2.2 hg.r hx.2.2 (hg.z (by omega))) ?_
   refine .c (KN k x.1 x.2.1 x.2.2 hR.r hx.2.2 ho.z) ?_
   rw [Km hR.r hx.1]
   try simp
end Go.Proofs.YtjimggclhlnfbaaGreat
