import Derived.Test.YtopfkkogooocgaaGreatB46
import Derived.Test.YtopfkkogooocgaaGreatB47
set_option maxHeartbeats 16000000
set_option linter.unusedVariables false
set_option linter.unusedSimpArgs false
set_option maxRecDepth 100000
namespace Go.Proofs.YtopfkkogooocgaaGreat
open Go.RowKit
def OkX (C:Nat->List Nat) (R:List Nat):Prop:=(∀ r,(C r).length<=9000)/\R.length<=1000
theorem OkX.c {C:Nat->List Nat} {R:List Nat} (h:OkX C R):OkC C R:=⟨h.1,by have:=h.2;omega⟩
structure Kn (C:Nat->List Nat) (R:List Nat) (n:Nat) (k:List Fg):Prop where
 r:RightK k
 ik:IK C R k
 s:∀ f ∈ k,SmV f.vec
 m:qE k<=n
 l:k.length<=n
theorem Kn.z {C:Nat->List Nat} {R:List Nat} {n:Nat} {k:List Fg} (h:Kn C R n k) (hn:n<=400000):SzK k:=
 ⟨by have:=h.l;omega,fun f hf=>⟨by have:=yv hf;have:=h.m;omega,by have:=(h.s f hf).2.1;omega,fun e he=>by have:=(h.s f hf).2.2 e he;omega⟩⟩
theorem Kn.ok12 {C:Nat->List Nat} {R:List Nat} {n:Nat} {k:List Fg} (h:Kn C R n k) (ok:OkX C R) (hn:n<=400000):Ok12 C R k:=
 ⟨h.r,h.z hn,by have:=h.l;omega,by have:=YO k;have:=h.m;omega,fun f hf=>by have:=yv hf;have:=h.m;omega,h.ik,ok.c,h.s⟩
theorem Kn.mono {C C':Nat->List Nat} {R R':List Nat} {n m:Nat} {k:List Fg} (h:Kn C R n k) (hC:∀ r x,x ∈ C r->x ∈ C' r) (hR:∀ x ∈ R,x ∈ R') (hn:n<=m):Kn C' R' m k:=
 ⟨h.r,fun f hf=>(h.ik f hf).mono hC hR,h.s,by have:=h.m;omega,by have:=h.l;omega⟩
theorem V1:∀ {k:List Fg},(∀ f ∈ k,f.items.length<=20)->qE k<=k.length * 20
 | [],_=>Nat.zero_le _
 | f::k,h=>by
   have h1:=V1 (k:=k) fun g hg=>h g (by simp [hg])
   have h2:=h f (by simp)
   simp only [qE,List.length_cons];omega
theorem Kn.few {k:List Fg} (h:vx k=true) (hr:RightK k):Kn (CK k) (RK k) 240 k:=by
 have h1:=X3 h
 have h2:=V1 fun f hf=>(h1.2 f hf).1
 exact⟨hr,hr.ik,fun f hf=>zfh h hr hf,by omega,by omega⟩
theorem zqC {k:List Fg} (h:vx k=true) (hr:RightK k):OkX (CK k) (RK k):=by
 have:=X4 h hr
 exact⟨fun r=>by have:=this.1 r;omega,by omega⟩
theorem Kn.refine {C:Nat->List Nat} {R:List Nat} {n:Nat} {k:List Fg} (h:Kn C R n k) (ok:OkX C R):Kn C R (1+2 * n) (jq k):=by
 have h1:=xW k
 have h2:=YO k
 have h3:=h.m
 have hw:=h.ik.refine
 refine⟨Yb h.r,fun f hf=>(hw f hf).iv,fun f hf=>(hw f hf).smv ok.c,?_,?_⟩
 ·unfold jq;rw [Zf];omega
 ·unfold jq;rw [List.length_map];omega
theorem Kn.group {C:Nat->List Nat} {R:List Nat} {n:Nat} {k:List Fg} (h:Kn C R n k) (ok:OkX C R):Kn C R n (zL k):=by
 have h1:=jU h.r
 have hw:∀ g ∈ zL k,WV C R g.vec:=fun g hg=>by
  obtain⟨f,hf,e⟩:=h1.2.2 g hg
  rw [e]
  exact(h.ik f hf).canVec
 exact⟨(vB h.r).right,fun g hg=>(hw g hg).iv,fun g hg=>(hw g hg).smv ok.c,by have:=h.m;omega,by have:=h.l;omega⟩
theorem Kn.take {C:Nat->List Nat} {R:List Nat} {n:Nat} {k:List Fg} (h:Kn C R n k) (j:Nat):Kn C R n (k.take j):=by
 refine⟨h.r.take j,h.ik.take j,fun f hf=>h.s f (List.mem_of_mem_take hf),?_,?_⟩
 ·have h1:=kK (k.take j) (k.drop j)
  rw [List.take_append_drop] at h1
  have:=h.m;omega
 ·have:=h.l
  have:=List.length_take_le j k
  have:=List.length_take_le' j k
  omega
end Go.Proofs.YtopfkkogooocgaaGreat
namespace Go.Proofs.YtopfkkogooocgaaGreat
open Go.RowKit
attribute [-go_sem] z7
theorem XK {C:Nat->List Nat} {R:List Nat} {n j:Nat} {k:List Fg} (h:Kn C R n k) (ok:OkX C R) (hn:n<=400000) (hj:j<k.length) (hne:¬(zi k[j].vec=[]\/k[j].items=[])):AddOk (zL (k.take j)) ⟨k[j].items,zi k[j].vec⟩:=by
 have ht:=h.take j
 have hg:=ht.group ok
 have gi:=vB ht.r
 have hm:=List.getElem_mem hj
 have hw:=(h.ik _ hm).canVec
 have hs:=jU ht.r
 have hv:∀ g ∈ zL (k.take j),WV C R g.vec:=fun g hg=>by
  obtain⟨f,hf,e⟩:=hs.2.2 g hg
  rw [e];exact(ht.ik f hf).canVec
 exact⟨gi,Yi (h.r _ hm) hne,by have:=hg.l;omega,by have:=yv hm;have:=h.m;show k[j].items.length<=_;omega,fun g h1=>by have:=yv h1;have:=hg.m;omega,hw.can.bd,fun g h1=>(gi.ok g h1).1.bd,hw.nlen ok.1 (by have:=ok.2;omega),fun g h1=>(hv g h1).nlen ok.1 (by have:=ok.2;omega)⟩
theorem zeA {P:Program} {f:FuncId} {t:Tmp} {p:Value} {xs:List Operand} {c:Call} {o:Oper} {a:Act} {w:World} {K:Act->World->Prop} {Q:Exit->Act->World->Prop} (ho:o.op=.call c) (hc:c.callee=.value (.tmp t)) (hv:a.eval (.tmp t)=.func (.func f) #[p] #[]) (ha:c.args.toList=xs)
 (he:∀ args w,(callFunc f args).run P w=.ok (.enter f args) w)
 (h:Calls P f (p::xs.map a.eval).toArray w fun e w''=>match e with | .returned v=>K (a.put o.dst v) w'' | .panicked chain=>Q (.panic chain) a w'' | .outgrown=>LetsOut Q):o.wp P a w K Q:=by
 have hr:(execOp a.eval o).run P w=.ok (.enter f (p::xs.map a.eval).toArray) w:=by
  have e:c.args.map a.eval=(xs.map a.eval).toArray:=Array.toList_inj.1 (by rw [Array.toList_map,ha])
  simp only [execOp,ho,resolve,hc,e,hv,Deferred.ofValue,Sem.run_bind,Sem.run_pure,Result.andThen_ok,invoke]
  rw [show (#[p]++(xs.map a.eval).toArray++#[]:Array Value)=(p::xs.map a.eval).toArray from by simp]
  exact he _ _
 unfold Oper.wp
 rw [hr,Oper.upon_enter]
 exact h.mono (fun e w' h=>by cases e<;>exact h)
theorem Vb {B:Nat->List Nat} {R:List Nat} {n:Nat} (C:Nat->Nat->Prop) (k:List Fg) (vk:Value) (w:World) (hk:Kn B R n k) (ok:OkX B R) (hn:n<=400000) (rk:Dat C w vk (kp k)) (hC:∀ b o,C b o->b<w.heap.size) (hG:GL C w) :
 Calls Tryz.prog 9 #[vk] w fun e w'=>∃ v,e=.returned v/\Keep (fun b=>w.heap.size<=b) w w'/\Dat (DL C w.heap.size w') w' v (kp (zL k))/\MuF (w.heap.size<=·) w' v:=by
 have hmf:∀(fn:Fn) (first cap:Array Value) (w:World),(Instr.makeFunc fn first cap).run Tryz.prog w=.ok (.func fn first cap) w:=fun _ _ _ _=>rfl
 obtain⟨aa,ca,fs,rfl,hl,hrow,hfs⟩:=kX rk hC
 have hkl:=hk.l
 have HK:=Lib.hid hk
 have HROW:=Lib.hid hrow
 have HFS:=Lib.hid hfs
 have HGL:=Lib.hid hG
 have hca:=hrow.1
 have hcm:=hrow.2.1
 unfold maxLen at hcm
 rw [hl] at hca
 have hent:∀ args w,(callFunc 22 args).run Tryz.prog w=.ok (.enter 22 args) w:=enters_of Tryz.func22 (by kernel_rfl) rfl
 have HEN:=Lib.hid hent
 clear rk hrow hfs hG hent hk
 go_enter Tryz.func9,Tryz.ntmps9
 go_wp2_with fail
 go_loopg [11] k.length (fun g x wr=>∃ j u,j<=k.length/\g=k.length - j/\x=.int .i64 j/\Boxed wr w.heap.size 49 u/\OutG C (w.heap.size+1) (w.heap.size+2) wr u (zL (k.take j))/\Keep (fun b=>w.heap.size<=b) w wr/\MG (w.heap.size+2) wr u (zL (k.take j)).length)
 case atStart=>exact⟨0,_,Nat.zero_le _,rfl,rfl,World.alloc_heap_new w _,OutG.start _ _ _ _,(Keep.refl _ w).alloc _,MG.nil _ _⟩
 case round=>
  obtain⟨j,u,hj,rfl,rfl,hbx,hout,hkr,hmg⟩:=hrel
  have HMG:=Lib.hid hmg
  have HBX:=Lib.hid hbx
  have HOUT:=Lib.hid hout
  have HKR:=Lib.hid hkr
  have hrw:=hbx.lt
  have cb:=hbx.cell
  clear hbx hout hkr hmg
  by_cases hlt:j<k.length
  ·have hltf:j<fs.length:=by omega
   obtain⟨bb,off,rfl,hbn,hcel⟩:=HROW.out.2.2 (by intro e;subst e;simp at hltf)
   obtain⟨c0,c1⟩:=hcel j hltf
   obtain⟨d0,d1⟩:=HFS.out j hltf
   replace c0:=(HKR.out.cell (p:=⟨bb,off+j * 2,none⟩) (by show bb<_;omega) (by show ¬ w.heap.size<=bb;omega)).trans c0
   replace c1:=(HKR.out.cell (p:=⟨bb,off+j * 2+1,none⟩) (by show bb<_;omega) (by show ¬ w.heap.size<=bb;omega)).trans c1
   have HAO:=Lib.hid (fun hne=>XK HK.out ok hn hlt hne)
   have HGT:=Lib.hid (Zo hlt)
   have hfm:=List.getElem_mem hlt
   have hsm:=HK.out.s _ hfm
   have hfr:=HK.out.r _ hfm
   have hil:k[j].items.length<=400000:=by have:=yv hfm;have:=HK.out.m;omega
   generalize k[j]=f at *
   generalize fs[j]=q at *
   obtain⟨ai,ci,e0⟩:=zK d0
   obtain⟨av,cv,e1⟩:=xL d1
   rw [e0] at c0 d0
   rw [e1] at c1 d1
   have hCr:∀ b o,C b o->b<wr.heap.size:=fun b o h=>by have:=hC b o h;omega
   have hGr:GL C wr:=HGL.out.mono (fun _ _ h=>h) fun b o x hc hx=>HKR.out.cell_some hx (by have:=hC b o hc;show ¬ w.heap.size<=b;omega)
   have hdm:∀(x:Value) (p:PV),Dat C w x p->∀ W,Below wr.heap.size wr W->Dat C W x p:=fun x p h W hW=>h.mono (fun _ _ h=>h) fun b o x hc hx=>(World.cell?_of_block (a:=⟨b,o,none⟩) (hW.block b (hCr b o hc))).trans (HKR.out.cell_some hx (by have:=hC b o hc;show ¬ w.heap.size<=b;omega))
   have hGW:∀ W,Below wr.heap.size wr W->GL C W:=fun W hW=>hGr.mono (fun _ _ h=>h) fun b o x hc hx=>(World.cell?_of_block (a:=⟨b,o,none⟩) (hW.block b (hCr b o hc))).trans hx
   have hcan:∀ W,Below wr.heap.size wr W->Calls Tryz.prog 23 #[.slice av f.vec.length cv] W fun e w'=>∃ a c,e=.returned (.slice a (zi f.vec).length c)/\Below W.heap.size W w'/\Dat (fun b o=>C b o\/(W.heap.size<=b/\b<w'.heap.size)) w' (.slice a (zi f.vec).length c) (vp (zi f.vec))/\MuE (W.heap.size<=·) w' (.slice a (zi f.vec).length c):=fun W hW=>by
    refine(zrY f.vec (hdm _ _ d1 W hW) (fun b o h=>Nat.lt_of_lt_of_le (hCr b o h) hW.size) hfr.2 hsm.2.1 hsm.2.2).mono ?_
    rintro e w' ⟨v,rfl,hb,hv⟩
    obtain⟨a,c,rfl⟩:=hv.shape
    exact⟨a,c,rfl,hb,RwE.dat hv (fun i e hv h=>jp h.rd fun b o h1 h2=>.inr ⟨h1,h2⟩) fun b o h1 h2=>.inr ⟨h1,h2⟩,RwE.mu hv fun _ _ _ h=>h.mu.mono fun b h=>h.1⟩
   have HCAN:=Lib.hid hcan
   have HD0:=Lib.hid d0
   have HDM:=Lib.hid hdm
   have HGW:=Lib.hid hGW
   have HCR:=Lib.hid hCr
   clear hcan d0 d1 hdm hGW hCr hGr hcel hfm hsm hfr e0 e1
   have tokA:True:=trivial
   by_cases h1:0<(zi f.vec).length
   ·by_cases h2:0<f.items.length
    ·go_wp2_with (first
      | (go_at_call 23;have _t:=tokA;refine(HCAN.out _ ((Below.refl _ _).alloc (Nat.le_refl _) _)).mono ?_;rintro e w3 ⟨a3,n3,rfl,hb3,hd3,hm3⟩
         have hx3:w3.heap[wr.heap.size]? = some (.cells #[.slice ai f.items.length ci,.slice av f.vec.length cv] 32 (0,0)):=(hb3.block _ (by simp)).trans (World.alloc_heap_new wr _)
         have f0:=(zW hx3 0 _ rfl).1
         have HB3:=Lib.hid (((Below.refl _ wr).alloc (Nat.le_refl _) _).trans (hb3.mono (by simp)))
         have hs3:=hb3.size
         simp only [World.size_alloc] at hs3
         have HD3:=Lib.hid hd3
         have HM3:=Lib.hid hm3
         clear hb3 hd3 hm3 hx3 tokA)
      | go_in)
     refine zeA (t:=27) (xs:=[.tmp 31]) rfl rfl rfl rfl HEN.out ?_
     have hne:¬(zi f.vec=[]\/f.items=[]):=fun e=>by
      rcases e with e | e
      ·rw [e] at h1;simp at h1
      ·rw [e] at h2;simp at h2
     have hsu:=HOUT.out.owns
     refine(Jh (C:=C) (base:=w.heap.size+2) (rb:=w.heap.size) (v:=u) (o:=zL (k.take j)) (f:=⟨f.items,zi f.vec⟩) (va:=.slice ai f.items.length ci) (vv:=.slice a3 (zi f.vec).length n3) (HAO.out hne) (HOUT.out.keep (by omega) fun b hb=>HB3.out.block b hb) ((HB3.out.block _ hrw).trans HBX.out) (by omega) (by omega) hC (HGW.out _ HB3.out) ?_ ?_ (HMG.out.keep (by omega) fun b _ hb=>HB3.out.block b hb) ?_).mono ?_
     ·exact(HDM.out _ _ HD0.out _ HB3.out).mono (fun b o h=>⟨.inl h,fun e=>by have:=(hsu b e).1;have:=hC b o h;omega⟩) fun _ _ _ _ h=>h
     ·refine HD3.out.mono (fun b o h=>?_) fun _ _ _ _ h=>h
      rcases h with h | h
      ·exact⟨.inl h,fun e=>by have:=(hsu b e).1;have:=hC b o h;omega⟩
      ·simp only [World.size_alloc] at h
       exact⟨.inr ⟨by omega,h.2⟩,fun e=>by have:=(hsu b e).2;omega⟩
     ·have h:=HM3.out.lt
      simp only [World.size_alloc] at h
      exact h.mono fun b h=>⟨⟨by omega,h.2⟩,fun e=>by have:=(hsu b e).2;omega⟩
     rintro e w4 ⟨⟨u',rfl⟩,v',hbx4,hout4,hk4,hmg4⟩
     have HMG4:=Lib.hid hmg4
     have HBX4:=Lib.hid hbx4
     have HOUT4:=Lib.hid hout4
     have HK4:=Lib.hid hk4
     clear hbx4 hout4 hk4 hmg4
     dsimp only
     go_wp2_with fail
     go_roundg (k.length - (j+1))
     case measure=>omega
     case rel=>
      refine⟨j+1,v',hlt,rfl,by simp,HBX4.out,?_,(HKR.out.trans (Keep.of_below' HB3.out (Nat.le_refl _))).trans (HK4.out.mono fun b _ h=>by omega),?_⟩
      ·rw [HGT.out,yo,if_neg hne]
       exact HOUT4.out
      ·rw [HGT.out,yo,if_neg hne]
       exact HMG4.out
    ·have h0:f.items=[]:=by cases hf:f.items with | nil=>rfl | cons a l=>rw [hf] at h2;simp at h2
     have H0:=Lib.hid h0
     clear h0
     go_wp2_with (first
      | (go_at_call 23;have _t:=tokA;refine(HCAN.out _ ((Below.refl _ _).alloc (Nat.le_refl _) _)).mono ?_;rintro e w3 ⟨a3,n3,rfl,hb3,hd3,hm3⟩
         have hx3:w3.heap[wr.heap.size]? = some (.cells #[.slice ai f.items.length ci,.slice av f.vec.length cv] 32 (0,0)):=(hb3.block _ (by simp)).trans (World.alloc_heap_new wr _)
         have f0:=(zW hx3 0 _ rfl).1
         have HB3:=Lib.hid (((Below.refl _ wr).alloc (Nat.le_refl _) _).trans (hb3.mono (by simp)))
         have hs3:=hb3.size
         simp only [World.size_alloc] at hs3
         clear hb3 hd3 hm3 hx3 tokA)
      | go_in)
     go_roundg (k.length - (j+1))
     case measure=>omega
     case rel=>
      refine⟨j+1,u,hlt,rfl,by simp,(HB3.out.block _ hrw).trans HBX.out,?_,HKR.out.trans (Keep.of_below' HB3.out (Nat.le_refl _)),?_⟩
      ·rw [HGT.out,yo,if_pos (.inr H0.out)]
       exact HOUT.out.keep (by omega) fun b hb=>HB3.out.block b hb
      ·rw [HGT.out,yo,if_pos (.inr H0.out)]
       exact HMG.out.keep (by omega) fun b _ hb=>HB3.out.block b hb
   ·have h0:zi f.vec=[]:=by cases hf:zi f.vec with | nil=>rfl | cons a l=>rw [hf] at h1;simp at h1
    have H0:=Lib.hid h0
    clear h0
    go_wp2_with (first
     | (go_at_call 23;have _t:=tokA;refine(HCAN.out _ ((Below.refl _ _).alloc (Nat.le_refl _) _)).mono ?_;rintro e w3 ⟨a3,n3,rfl,hb3,hd3,hm3⟩
        have HB3:=Lib.hid (((Below.refl _ wr).alloc (Nat.le_refl _) _).trans (hb3.mono (by simp)))
        have hs3:=hb3.size
        simp only [World.size_alloc] at hs3
        clear hb3 hd3 hm3 tokA)
     | go_in)
    go_roundg (k.length - (j+1))
    case measure=>omega
    case rel=>
     refine⟨j+1,u,hlt,rfl,by simp,(HB3.out.block _ hrw).trans HBX.out,?_,HKR.out.trans (Keep.of_below' HB3.out (Nat.le_refl _)),?_⟩
     ·rw [HGT.out,yo,if_pos (.inl H0.out)]
      exact HOUT.out.keep (by omega) fun b hb=>HB3.out.block b hb
     ·rw [HGT.out,yo,if_pos (.inl H0.out)]
      exact HMG.out.keep (by omega) fun b _ hb=>HB3.out.block b hb
  ·obtain rfl:j=k.length:=by omega
   go_wp2_with fail
   refine bodyPost_ret (results_tmp rfl _ _ _) rfl ?_
   have h:=HOUT.out.dat (by omega)
   rw [List.take_length] at h
   exact⟨_,rfl,HKR.out,h.mono (fun b o h=>h.imp id fun h=>⟨by omega,h.2⟩) fun _ _ _ _ h=>h,HMG.out.mu.mono fun b h=>by omega⟩
theorem zfn {B:Nat->List Nat} {R:List Nat} {n:Nat} (k:List Fg) (hk:Kn B R n k) (ok:OkX B R) (hn:n<=400000):Cn Tryz.prog 9 [kp k] (kp (zL k)):=by
 refine yZ rfl (enters_of Tryz.func9 (by kernel_rfl) rfl) fun D w vs hG hD hsz hd=>?_
 rw [KB hsz]
 refine(Vb D k _ w hk ok hn (hd 0 _ rfl) hD hG).mono ?_
 rintro e w' ⟨v,rfl,hb,hv,_⟩
 exact⟨v,rfl,hb.below (Nat.le_refl _) fun _ h h'=>by omega,hv.mono (fun _ _ h=>h.imp id fun h=>⟨Nat.le_of_lt h.1,h.2⟩) fun _ _ _ _ h=>h⟩
theorem OutG.at {C:Nat->Nat->Prop} {mb base:Nat} {w:World} {ad:Option Addr} {cap:Nat} {o:List Fg} (h:OutG C mb base w (.slice ad o.length cap) o) {i:Nat} (hi:i<o.length) :
 ∃ g ai ci av cv cur,ad=some ⟨g,0,none⟩/\base<=g/\w.heap[g]? = some (.cells cur 32 (0,0))/\w.cell? ⟨g,i * 2,none⟩=some (.slice ai o[i].items.length ci)/\w.cell? ⟨g,i * 2+1,none⟩=some (.slice av o[i].vec.length cv) /\
  Dat (DX C mb w (.slice ad o.length cap)) w (.slice ai o[i].items.length ci) (rg o[i].items)/\Dat (DX C mb w (.slice ad o.length cap)) w (.slice av o[i].vec.length cv) (vp o[i].vec):=by
 obtain⟨xs,hxs,hel⟩:=h
 obtain⟨a,b,ea,eb,da,db⟩:=hel i hi
 obtain⟨g,cap',cur,ev,hgb,hgl,hgc,_⟩:=hxs.cases.resolve_left (fun h=>by omega)
 obtain⟨rfl,_,rfl⟩:ad=some ⟨g,0,none⟩/\o.length=o.length/\cap=cap':=by simpa using ev
 have hc:∀ j x,xs[j]? = some x->w.cell? ⟨g,j,none⟩=some x:=fun j x hx=>by
  have:=World.ownsRow.cells hxs.1 (g:=g) rfl j x hx
  rw [zh,Nat.zero_add] at this
  exact this
 obtain⟨ai,ci,rfl⟩:=zK da
 obtain⟨av,cv,rfl⟩:=xL db
 exact⟨g,ai,ci,av,cv,cur,rfl,hgb,hgc,hc _ _ ea,hc _ _ eb,da,db⟩
end Go.Proofs.YtopfkkogooocgaaGreat
namespace Go.Proofs.YtopfkkogooocgaaGreat
open Go.RowKit
def ApI (k:List Fg):Prop:=∀ i j (hi:i<k.length) (hj:j<i),qy y5 k[i].items (k[j]'(by omega)).items=[]
theorem zrU (k:List Fg) (r:Bool) (hr:r=true ↔ ApI k) (hn:∀ f ∈ k,Nrm f.items) (hl:∀ f ∈ k,f.items.length<=131072) (hk:k.length<=1152921504606846976):Cn Tryz.prog 5 [kp k] (.v (.bool r)):=by
 refine zt Tryz.func5 1 ?_
 refine pw ?_
 refine pLoop.go (fun i=>i<=k.length/\∀ i' j (hi:i'<k.length) (hj:j<i'),i'<i->qy y5 k[i'].items (k[j]'(by omega)).items=[]) (fun i=>[(3,.v (.int .i64 (i:Nat)))]) (fun _=>[]) (fun i=>k.length - i) 0 [3,4] ?_ ?_ ?_
 ·exact⟨Nat.zero_le _,fun i' j _ _ h=>absurd h (by omega)⟩
 ·exact pd
 ·rintro i ⟨hi,ha⟩
  refine pw ?_
  refine .i ?_ ?_<;>intro h<;>(try simp only [zb] at h)<;>first | refine pw ?_ | exact pd
  ·refine pLoop.go (fun j=>j<=i/\∀ j' (hj:j'<i),j'<j->qy y5 k[i].items (k[j']'(by omega)).items=[]) (fun j=>[(4,.v (.int .i64 (j:Nat)))]) (fun _=>[]) (fun j=>i - j) 0 [4] ?_ ?_ ?_
   ·exact⟨Nat.zero_le _,fun j' _ h=>absurd h (by omega)⟩
   ·exact pd
   ·rintro j ⟨hj,hb⟩
    refine pw ?_
    refine .i ?_ ?_<;>intro h2<;>(try simp only [zb] at h2)<;>first | refine pw ?_ | exact pd
    ·have hjl:j<k.length:=by omega
     refine .c (zq2 k[i].items k[j].items (hn _ (List.getElem_mem h)) (hn _ (List.getElem_mem hjl)) (hl _ (List.getElem_mem h)) (hl _ (List.getElem_mem hjl))) ?_
     refine .i ?_ ?_<;>intro h3<;>(try simp only [zb] at h3)<;>first | refine pw ?_ | exact pd
     ·have hno:¬ ApI k:=fun ha'=>by
       have:=ha' i j h h2
       rw [this] at h3
       simp at h3
      cases hrr:r with
      | false=>rfl
      | true=>exact absurd (hr.1 hrr) hno
     ·refine⟨j+1,⟨h2,fun j' hj' hlt=>?_⟩,by omega,rfl⟩
      rcases Nat.lt_or_ge j' j with h4 | h4
      ·exact hb j' hj' h4
      ·obtain rfl:j'=j:=by omega
       exact List.length_eq_zero_iff.1 (by omega)
    ·refine⟨i+1,⟨h,fun i' j1 hi' hj' hlt=>?_⟩,by omega,rfl⟩
     rcases Nat.lt_or_ge i' i with h4 | h4
     ·exact ha i' j1 hi' hj' h4
     ·obtain rfl:i'=i:=by omega
      exact hb j1 hj' (by omega)
  ·exact(hr.2 fun i' j hi' hj=>ha i' j hi' hj (by omega)).symm
theorem zsn:vx k12=true:=by decide
theorem zrV:Cn Tryz.prog 6 [] (.v (.bool true)):=by
 have hk:=Kn.few zsn r12
 have ok:=zqC zsn r12
 have h12:=hk.ok12 ok (by omega)
 have a1:=zaG k12 h12.r h12.z (by decide) h12.t
 have a2:=zdF k12 h12.r h12.z (by decide) h12.t
 rw [zsW] at a1
 rw [zsT] at a2
 have a3:=ziJ k12 h12
 have a4:=zfn (jq k12) (hk.refine ok) ok (by omega)
 have e1:=zrC [0,1,4,6,10] [0,1,4,6,10] (by decide)
 have e2:=zgI [⟨1,3⟩,⟨4,5⟩,⟨6,9⟩] [⟨1,3⟩,⟨4,5⟩,⟨6,9⟩] (by decide)
 have l1:(jq k12).length=3:=by rw [zsU];rfl
 have l2:=zta
 refine zt Tryz.func6 0 ?_
 refine pw ?_
 (first | refine .c (a1) ?_ | refine .o (a1) ?_)
 (first | refine .c (e1) ?_ | refine .o (e1) ?_)
 (first | refine .c (a2) ?_ | refine .o (a2) ?_)
 (first | refine .c (e2) ?_ | refine .o (e2) ?_)
 (first | refine .c (a3) ?_ | refine .o (a3) ?_)
 rw [l1]
 simp only [show (((3:Nat):Int)=3)=True from eq_true rfl,decide_true]
 refine pw ?_
 (first | refine .c (a3) ?_ | refine .o (a3) ?_)
 (first | refine .c (a4) ?_ | refine .o (a4) ?_)
 rw [l2]
 simp
def zq8 (k:List Fg):Bool:=vx k && decide ((ckK k).1=0)
theorem zrX (k:List Fg) (hb:BdK k):Cn Tryz.prog 4 [kp k] (.v (.bool (zq8 k))):=by
 unfold zq8
 refine zt Tryz.func4 1 ?_
 refine pw ?_
 refine .c (zc8 k hb) ?_
 refine .i ?_ ?_<;>intro h<;>(try simp only [zb] at h)<;>first | refine pw ?_ | exact pd
 ·refine .c (Vm k hb (zcS h)) ?_
  simp [h]
 ·simp [h]
structure Rt12 (k:List Fg):Prop where
 f:vx k=true
 r:RightK k
 kn:Kn (CK k) (RK k) 240 k
 ok:OkX (CK k) (RK k)
theorem zrO {k:List Fg} (hb:BdK k) (h:zq8 k=true):Rt12 k:=by
 unfold zq8 at h
 rw [Bool.and_eq_true,decide_eq_true_eq] at h
 have hr:=(ZN hb).1 h.2
 exact⟨h.1,hr,Kn.few h.1 hr,zqC h.1 hr⟩
theorem Rt12.o {k:List Fg} (h:Rt12 k):Ok12 (CK k) (RK k) k:=h.kn.ok12 h.ok (by omega)
end Go.Proofs.YtopfkkogooocgaaGreat
namespace Go.Proofs.YtopfkkogooocgaaGreat
open Go.RowKit
attribute [-go_sem] z7
theorem zr9 {D:Nat->Nat->Prop} {w:World} {x:Value} (k:List Fg) (d:Dat D w x (kp k)) (hD:∀ b o,D b o->b<w.heap.size) (hG:GL D w) (hb:BdK k):Calls Tryz.prog 3 #[x] w fun e w'=>e=.returned (.bool true)/\Below w.heap.size w w':=by
 have hat:∀ W,Below w.heap.size w W->Dat D W x (kp k)/\GL D W/\∀ b o,D b o->b<W.heap.size:=fun W hW=>by
  have hw:∀ b o x,D b o->w.cell? ⟨b,o,none⟩=some x->W.cell? ⟨b,o,none⟩=some x:=fun b o x h hx=>(World.cell?_of_block (a:=⟨b,o,none⟩) (hW.block b (hD b o h))).trans hx
  exact⟨d.mono (fun _ _ h=>h) hw,hG.mono (fun _ _ h=>h) hw,fun b o h=>Nat.lt_of_lt_of_le (hD b o h) hW.size⟩
 obtain⟨ax,cx,_,rfl,_⟩:=kX d hD
 obtain⟨r12,hr12⟩:∃ r,r=zq8 k:=⟨_,rfl⟩
 have hrt:Calls Tryz.prog 4 #[.slice ax k.length cx] w fun e w'=>e=.returned (.bool r12)/\Below w.heap.size w w':=by
  rw [hr12]
  exact cn_bool (zrX k hb) hG hD rfl fun i p hp=>by
   match i,hp with
   | 0,hp=>cases hp;exact d
   | i+1,hp=>simp at hp
 have hal:∀ W,Below w.heap.size w W->Calls Tryz.prog 6 #[] W fun e w'=>e=.returned (.bool true)/\Below W.heap.size W w':=fun W hW=>
  cn_bool zrV (hat W hW).2.1 (hat W hW).2.2 rfl fun i p hp=>by simp at hp
 have HAT:=Lib.hid hat
 have HAL:=Lib.hid hal
 clear hat hal d hD hG
 cases r12 with
 | false=>
   have HF:=Lib.hid hrt
   clear hrt hr12
   go_enter Tryz.func3,Tryz.ntmps3
   go_wp2_with (first
    | (go_at_call 4;refine HF.out.mono ?_;rintro e w1 ⟨rfl,hb1⟩)
    | (go_at_call 6;refine(HAL.out _ hb1).mono ?_;rintro e w2 ⟨rfl,hb2⟩))
   go_ret
   exact⟨rfl,hb1.trans (hb2.mono hb1.size)⟩
 | true=>
   have hR:=zrO hb hr12.symm
   have ho:=hR.o
   have hg:=zcS hR.f
   have hs:=X3 hR.f
   obtain⟨r,hr⟩:∃ r:Bool,r=true ↔ ApI k:=by
    by_cases h:ApI k
    ·exact⟨true,by simp [h]⟩
    ·exact⟨false,by simp [h]⟩
   have hap:∀ W,Below w.heap.size w W->Calls Tryz.prog 5 #[.slice ax k.length cx] W fun e w'=>e=.returned (.bool r)/\Below W.heap.size W w':=fun W hW=>
    cn_bool (zrU k r hr (fun f hf=>(hR.r f hf).1) (fun f hf=>by have:=yv hf;have:=hR.kn.m;omega) (by have:=hR.kn.l;omega)) (HAT.out W hW).2.1 (HAT.out W hW).2.2 rfl fun i p hp=>by
     match i,hp with
     | 0,hp=>cases hp;exact(HAT.out W hW).1
     | i+1,hp=>simp at hp
   have HF:=Lib.hid hrt
   have HAP:=Lib.hid hap
   clear hrt hap hr hr12
   cases r with
   | false=>
     clear hR ho hg hs
     go_enter Tryz.func3,Tryz.ntmps3
     go_wp2_with (first
      | (go_at_call 4;refine HF.out.mono ?_;rintro e w1 ⟨rfl,hb1⟩)
      | (go_at_call 5;refine(HAP.out _ hb1).mono ?_;rintro e w2 ⟨rfl,hb2⟩;have hb3:=hb1.trans (hb2.mono hb1.size);clear hb1 hb2)
      | (go_at_call 6;refine(HAL.out _ hb3).mono ?_;rintro e w3 ⟨rfl,hb4⟩))
     go_ret
     exact⟨rfl,hb3.trans (hb4.mono hb3.size)⟩
   | true=>
     have hcl:∀ W,Below w.heap.size w W->Calls Tryz.prog 7 #[.slice ax k.length cx] W fun e w'=>∃ u,e=.returned u/\Below W.heap.size W w'/\KO W.heap.size w' u k:=fun W hW=>
      zrM k (HAT.out W hW).1 (HAT.out W hW).2.2 (fun f hf=>⟨(hb.1 f hf).1,(hb.1 f hf).2.1⟩) (by omega) fun f hf=>by
       have h:=hs.2 f hf
       exact⟨by omega,by omega,fun e he=>by have:=h.2.2 e he;omega⟩
     have hsame:∀(W:World) (u:Value) (m n:Nat),Below w.heap.size w W->n<=W.heap.size->Dat (fun b _=>m<=b/\b<n) W u (kp k)->Calls Tryz.prog 10 #[u,.slice ax k.length cx] W fun e w'=>e=.returned (.bool true)/\Below W.heap.size W w':=fun W u m n hW hn hu=>by
      have hc:=zfq k k hg
      rw [decide_eq_true rfl] at hc
      refine cn_bool hc (D:=fun b o=>D b o\/(m<=b/\b<n)) ((HAT.out W hW).2.1.mono (fun _ _ h=>.inl h) fun _ _ _ _ h=>h) (fun b o h=>h.elim ((HAT.out W hW).2.2 b o) fun h=>Nat.lt_of_lt_of_le h.2 hn) rfl fun i p hp=>?_
      match i,hp with
      | 0,hp=>cases hp;exact hu.mono (fun _ _ h=>.inr h) fun _ _ _ _ h=>h
      | 1,hp=>cases hp;exact(HAT.out W hW).1.mono (fun _ _ h=>.inl h) fun _ _ _ _ h=>h
      | i+2,hp=>simp at hp
     have hre:∀(W:World) (u:Value) (m n:Nat),Below w.heap.size w W->n<=W.heap.size->Dat (fun b _=>m<=b/\b<n) W u (kp k)->Calls Tryz.prog 8 #[u] W fun e w'=>∃ v B,e=.returned v/\Below W.heap.size W w'/\(W.heap.size<=B/\B<=w'.heap.size)/\MG B w' v (zu k).length:=fun W u m n hW hn hu=>
      zrW k ho (D:=fun b o=>D b o\/(m<=b/\b<n)) ((HAT.out W hW).2.1.mono (fun _ _ h=>.inl h) fun _ _ _ _ h=>h) (fun b o h=>h.elim ((HAT.out W hW).2.2 b o) fun h=>Nat.lt_of_lt_of_le h.2 hn) (hu.mono (fun _ _ h=>.inr h) fun _ _ _ _ h=>h)
     have hgr:∀(W:World) (u:Value) (m n:Nat),Below w.heap.size w W->n<=W.heap.size->Dat (fun b _=>m<=b/\b<n) W u (kp k)->Calls Tryz.prog 9 #[u] W fun e w'=>∃ a c,e=.returned (.slice a (zL k).length c)/\Below W.heap.size W w'/\MuF (W.heap.size<=·) w' (.slice a (zL k).length c):=fun W u m n hW hn hu=>by
      refine(Vb (fun b o=>D b o\/(m<=b/\b<n)) k u W hR.kn hR.ok (by omega) (hu.mono (fun _ _ h=>.inr h) fun _ _ _ _ h=>h) (fun b o h=>h.elim ((HAT.out W hW).2.2 b o) fun h=>Nat.lt_of_lt_of_le h.2 hn) ((HAT.out W hW).2.1.mono (fun _ _ h=>.inl h) fun _ _ _ _ h=>h)).mono ?_
      rintro e w' ⟨v,rfl,hk,hd,hm⟩
      obtain⟨a,c,fs,rfl,_⟩:=kX hd (n0:=w'.heap.size) (fun b o h=>h.elim (fun h=>h.elim (fun h=>by have:=(HAT.out W hW).2.2 b o h;have:=hk.size;omega) fun h=>by have:=hk.size;omega) And.right)
      exact⟨a,c,rfl,hk.below (Nat.le_refl _) fun _ h h'=>by omega,hm⟩
     have hnr:(zu k).length<=1000:=by
      have h1:=xW k
      have h2:=YO k
      have h3:=hR.kn.m
      omega
     have hng:(zL k).length<=1000:=by
      have h1:=(hR.kn.group hR.ok).l
      omega
     obtain⟨i0,hi0,hz0,hz1,hz2⟩:=info_parts Z9
     have HI:=Lib.hid (And.intro hi0 (And.intro hz0 (And.intro hz1 hz2)))
     have HCL:=Lib.hid hcl
     have HSM:=Lib.hid hsame
     have HRE:=Lib.hid hre
     have HGR:=Lib.hid hgr
     clear hi0 hz0 hz1 hz2 hcl hsame hre hgr hR ho hg hs
     obtain⟨nr,hnr'⟩:∃ nr,nr=(zu k).length:=⟨_,rfl⟩
     obtain⟨ng,hng'⟩:∃ ng,ng=(zL k).length:=⟨_,rfl⟩
     rw [<-hnr'] at HRE hnr
     rw [<-hng'] at HGR hng
     clear hnr' hng'
     go_enter Tryz.func3,Tryz.ntmps3
     go_wp2_with (first
      | (go_at_call 4;refine HF.out.mono ?_;rintro e w1 ⟨rfl,hb1⟩;have HB1:=Lib.hid hb1;clear hb1)
      | (go_at_call 5;refine(HAP.out _ HB1.out).mono ?_;rintro e w2 ⟨rfl,hb2⟩;have HB2:=Lib.hid (HB1.out.trans (hb2.mono HB1.out.size));clear hb2)
      | (go_at_call 7;refine(HCL.out _ HB2.out).mono ?_;rintro e w3 ⟨u3,rfl,hb3,hr3⟩
         obtain⟨a3,c3,rfl,hc3,hm3,_⟩:=RwF.shape hr3
         have HR3:=Lib.hid hr3
         have HB3:=Lib.hid (HB2.out.trans (hb3.mono HB2.out.size))
         have HA2:=Lib.hid HB2.out.size
         have HN2:=Lib.hid hb3.size
         clear hb3 hr3)
      | (go_at_call 8;refine(HRE.out _ (.slice a3 k.length c3) w2.heap.size w3.heap.size HB3.out (Nat.le_refl _) (KO.dat (D:=fun b _=>w2.heap.size<=b/\b<w3.heap.size) HR3.out fun b o h1 h2=>⟨h1,h2⟩)).mono ?_;rintro e w4 ⟨v4,B,rfl,hb4,hB,hmg4⟩
         have HP4:=Lib.hid (Pw.below (w:=w) (w3:=w3) (M:=w2.heap.size) (N:=w3.heap.size) ⟨HB3.out,fun _ _ _=>rfl,Nat.le_refl _⟩ hb4)
         have HB:=Lib.hid hB
         have HMG4:=Lib.hid hmg4
         clear hb4 hB hmg4)
      | (go_at_call 9;refine(HGR.out _ (.slice a3 k.length c3) w2.heap.size w3.heap.size HP4.out.1 HP4.out.2.2 ((KO.dat (D:=fun b _=>w2.heap.size<=b/\b<w3.heap.size) HR3.out fun b o h1 h2=>⟨h1,h2⟩).mono (fun _ _ h=>h) fun b o x h hx=>(World.cell?_of_block (a:=⟨b,o,none⟩) (HP4.out.2.1 b h.1 h.2)).trans hx)).mono ?_;rintro e w5 ⟨a5,c5,rfl,hb5,hmf5⟩
         have HP5:=Lib.hid (HP4.out.below hb5)
         have hmg5:=HMG4.out.keep hb5.size fun b _ hb=>hb5.block b hb
         obtain⟨xs,hxs,_⟩:=id hmg5
         obtain⟨ys,hyl,hyc,hy1,hyp⟩:=hmf5.row
         have hlt4:∀ g,v4.ownBlock=some g->B<=g/\g<w4.heap.size:=fun g hg=>by
          obtain⟨_,h,_⟩:=HMG4.out
          exact h.lt g hg
         have hpp:∀ i,i<ng->∃ a b,ys[i * 2]? = some a/\ys[i * 2+1]? = some b/\MuI (Bo B w5 v4) w5 a/\MuE (Bo B w5 v4) w5 b:=fun i hi=>by
          obtain⟨x,y,p1,p2,p3,p4⟩:=hyp i hi
          have hbb:∀ b,w4.heap.size<=b/\b<w5.heap.size->Bo B w5 v4 b:=fun b h=>⟨⟨by have:=HB.out.2;omega,h.2⟩,fun e=>by have:=(hlt4 b e).2;omega⟩
          exact⟨x,y,p1,p2,p3.lt.mono hbb,p4.lt.mono hbb⟩
         have HMG5:=Lib.hid hmg5
         have HXS:=Lib.hid hxs
         have HY:=Lib.hid (And.intro hyl (And.intro hyc (And.intro hy1 hpp)))
         have HL4:=Lib.hid hlt4
         have HL5:=Lib.hid (Nat.le_trans HB.out.2 hb5.size)
         clear hb5 hmf5 hmg5 hxs hyl hyc hy1 hyp hlt4 hpp)
      | (at_builtin
         refine zq6 _ _ 23 32 rfl rfl i0 _ 2 48 Tryz.underlying23 HI.out.1 HI.out.2.1 HI.out.2.2.1 HI.out.2.2.2 rfl (by decide) (by decide) B _ nr xs rfl HXS.out _ ng c5 ys rfl HY.out.1 HY.out.2.1 HY.out.2.2.1 (by omega) HL5.out ?_
         intro v6 w6 ho6 hg6 hv6
         have hmg6:=MG.app HMG5.out HXS.out HY.out.2.2.2 ho6 hg6 hv6
         have hp6:Pw w w3 w2.heap.size w3.heap.size w6:=⟨HP5.out.1.grown hg6 HP5.out.1.size (fun j hj=>by have:=(HL4.out j hj).1;have:=HB.out.1;have:=HP4.out.1.size;have:=HB3.out.size;omega),
          fun j h1 h2=>(hg6.block j (Nat.lt_of_lt_of_le h2 HP5.out.2.2) (fun e=>by have:=(HL4.out j e.symm).1;have:=HB.out.1;have:=HP4.out.2.2;omega)).trans (HP5.out.2.1 j h1 h2),Nat.le_trans HP5.out.2.2 hg6.size⟩
         have hmu6:MuF (w3.heap.size<=·) w6 v6:=hmg6.mu.mono fun b h=>by have:=HB.out.1;have:=HP4.out.2.2;omega
         have HP6:=Lib.hid hp6
         have HM6:=Lib.hid hmu6
         obtain⟨n6,a6,c6,rfl,hn6,hm6,_⟩:=hmu6
         clear hp6 hmg6 ho6 hg6 hv6))
     have hmu:=HM6.out
     have hp6:=HP6.out
     have hA2:=HA2.out
     have hN2:=HN2.out
     have hd3:∀ W,(∀ j,w2.heap.size<=j->j<w3.heap.size->W.heap[j]? = w3.heap[j]?)->Dat (fun b _=>w2.heap.size<=b/\b<w3.heap.size) W (.slice a3 k.length c3) (kp k):=fun W hW=>
      (KO.dat (D:=fun b _=>w2.heap.size<=b/\b<w3.heap.size) HR3.out fun b o h1 h2=>⟨h1,h2⟩).mono (fun _ _ h=>h) fun b o x h hx=>(World.cell?_of_block (a:=⟨b,o,none⟩) (hW b h.1 h.2)).trans hx
     clear HM6 HP6 HA2 HN2 HB1 HB2 HB3 HR3 HP4 HB HMG4 HP5 HMG5 HXS HY HL4 HL5 HF HAP HCL HRE HGR HI
     unfold maxLen at hm3 hm6
     obtain⟨M,hMe⟩:∃ M,w2.heap.size=M:=⟨_,rfl⟩
     obtain⟨N,hNe⟩:∃ N,w3.heap.size=N:=⟨_,rfl⟩
     rw [hMe] at hp6 hA2 hN2 hd3
     rw [hNe] at hmu hp6 hN2 hd3
     have HM:=Lib.hid hmu
     have HD3:=Lib.hid hd3
     have HP6:=Lib.hid hp6
     have hA:w.heap.size<=N:=Nat.le_trans hA2 hN2
     clear hmu hd3 hp6 hMe hNe
     go_loopg [26] n6 (fun g x wr=>∃ i:Nat,x=.int .i64 i/\i<=n6/\g=n6 - i/\Kd N w6 wr)
     case atStart=>exact⟨0,rfl,Nat.zero_le _,rfl,Kd.refl _ _⟩
     case round=>
      obtain⟨i,rfl,hi,rfl,hk⟩:=hrel
      have HK:=Lib.hid hk
      clear hk
      by_cases hlt:i<n6
      ·obtain⟨b,off,ai,li,ci,av,lv,cv,rfl,s0,hl1,hl2,hmi,s1,hl3,hl4,hme⟩:=zsm (HM.out.kd HK.out) hlt
       obtain⟨wq,hwq⟩:∃ wq,wq=wr:=⟨wr,rfl⟩
       subst hwq
       have HMI0:=Lib.hid hmi
       have HME0:=Lib.hid hme
       have hNq:=(HP6.out.kd HK.out hA (Nat.le_refl _)).2.2
       clear hmi hme
       go_upto_region 7 with fail
       refine wp_some (R:=fun W=>Kd N wq W/\W.cell? ⟨wq.heap.size,0,none⟩=some (.slice ai li ci)/\W.cell? ⟨wq.heap.size,1,none⟩=some (.slice av lv cv)) ⟨(Kd.refl _ _).alloc hNq _,(zW (World.alloc_heap_new wq _) 0 _ rfl).1,(zW (World.alloc_heap_new wq _) 1 _ rfl).1⟩ ?_
       clear s0 s1
       rintro wz ⟨hkz,s0,s1⟩
       have HKZ:=Lib.hid hkz
       have HS0:=Lib.hid s0
       have HS1:=Lib.hid s1
       have HMI:=Lib.hid (HMI0.out.kd hkz)
       have HME:=Lib.hid (HME0.out.kd hkz)
       clear s1 hkz HMI0 HME0
       go_wp2_with fail
       clear s0
       go_loopg [33] li (fun g x wl=>∃ j:Nat,x=.int .i64 j/\j<=li/\g=li - j/\Kd N wz wl)
       case atStart=>exact⟨0,rfl,Nat.zero_le _,rfl,Kd.refl _ _⟩
       case round=>
        obtain⟨j,rfl,hj,rfl,hkl⟩:=hrel
        have HKL:=Lib.hid hkl
        clear hkl
        by_cases hjl:j<li
        ·obtain⟨bh,oh,n0,n1,rfl,hbh,t0,f0,t1,f1⟩:=zrm (HMI.out.kd HKL.out) hjl
         have s0:=HKL.out.keep HS0.out (by intro m e;cases e)
         go_wp2
         go_roundg (li - (j+1))
         case measure=>omega
         case rel=>exact⟨j+1,rfl,by omega,rfl,HKL.out.set hbh t0 _⟩
        ·obtain⟨wy,hwy⟩:∃ wy,wy=wr:=⟨wr,rfl⟩
         subst hwy
         have s1:=HKL.out.keep HS1.out (by intro m e;cases e)
         go_wp2_with fail
         clear s1
         go_loopg [49] lv (fun g x wl=>∃ m:Nat,x=.int .i64 m/\m<=lv/\g=lv - m/\Kd N wz wl)
         case atStart=>exact⟨0,rfl,Nat.zero_le _,rfl,HKL.out⟩
         case round=>
          clear HKL
          obtain⟨m,rfl,hm,rfl,hkm⟩:=hrel
          have HKM:=Lib.hid hkm
          clear hkm
          by_cases hml:m<lv
          ·obtain⟨bv,ov,m0,m1,ah,lh,ch,rfl,hb0,s0,f0,s1,f1,s2,hl5,hl6,hmh⟩:=mu_at (HME.out.kd HKM.out) hml
           have sv1:=HKM.out.keep HS1.out (by intro m e;cases e)
           obtain⟨wx,hwx⟩:∃ wx,wx=wr:=⟨wr,rfl⟩
           subst hwx
           go_upto_region 16 with fail
           refine wp_some (R:=Kd N wz) (HKM.out.set hb0 s1 _) ?_
           clear HKM s0 f0 s1 f1 s2 hl5 hl6 hmh hb0 sv1
           intro wo hko
           obtain⟨b',off',m0,m1,ah,lh,ch,hbo,hb0,s0,f0,s1,f1,s2,hl5,hl6,hmh⟩:=mu_at (HME.out.kd hko) hml
           cases hbo
           have sv1:=hko.keep HS1.out (by intro m e;cases e)
           have HSV:=Lib.hid sv1
           have HS2:=Lib.hid s2
           have HMH:=Lib.hid hmh
           have HK5:=Lib.hid hko
           clear s0 f0 s1 f1 hko hmh hb0
           go_wp2_with fail
           clear s2 sv1
           go_loopg [68] lh (fun g x wl=>∃ h:Nat,x=.int .i64 h/\h<=lh/\g=lh - h/\Kd N wo wl)
           case atStart=>exact⟨0,rfl,Nat.zero_le _,rfl,Kd.refl _ _⟩
           case round=>
            obtain⟨h,rfl,hh,rfl,hkh⟩:=hrel
            have HKH:=Lib.hid hkh
            clear hkh
            by_cases hhl:h<lh
            ·obtain⟨bh,oh,n0,n1,rfl,hbh,t0,f0,t1,f1⟩:=zrm (HMH.out.kd HKH.out) hhl
             have s2:=HKH.out.keep HS2.out (by intro m e;cases e)
             have sv1:=HKH.out.keep HSV.out (by intro m e;cases e)
             go_wp2
             go_roundg (lh - (h+1))
             case measure=>omega
             case rel=>exact⟨h+1,rfl,by omega,rfl,HKH.out.set hbh t1 _⟩
            ·go_wp2_with fail
             go_roundg (lv - (m+1))
             case measure=>omega
             case rel=>exact⟨m+1,rfl,by omega,rfl,HK5.out.trans HKH.out⟩
          ·go_wp2_with fail
           go_roundg (n6 - (i+1))
           case measure=>omega
           case rel=>exact⟨i+1,rfl,by omega,rfl,(HK.out.trans HKZ.out).trans HKM.out⟩
      ·have HPp:=Lib.hid (HP6.out.kd HK.out hA (Nat.le_refl _))
       clear HM HK
       go_wp2_with (first
        | (go_at_call 6;refine(HAL.out _ HPp.out.1).mono ?_;rintro e w7 ⟨rfl,hb7⟩;have HP7:=Lib.hid (HPp.out.below hb7);clear hb7)
        | (go_at_call 10;refine(HSM.out _ (.slice a3 k.length c3) M N HP7.out.1 HP7.out.2.2 (HD3.out _ HP7.out.2.1)).mono ?_;rintro e w8 ⟨rfl,hb8⟩;have HP8:=Lib.hid (HP7.out.below hb8);clear hb8))
       go_ret
       exact⟨rfl,HP8.out.1⟩
theorem zrN (k:List Fg) (hb:BdK k):Cn Tryz.prog 3 [kp k] (.v (.bool true)):=by
 refine⟨enters_of Tryz.func3 (by kernel_rfl) rfl,fun D w vs hG hD hsz hp=>?_⟩
 rw [KB hsz]
 refine(zr9 k (hp 0 _ rfl) hD hG hb).mono ?_
 rintro e w' ⟨rfl,hb⟩
 exact⟨_,D,rfl,hb,fun _ _ h=>h,fun _ _ h=>.inl h,fun b o h=>Nat.lt_of_lt_of_le (hD b o h) hb.size,.v _,trivial⟩
end Go.Proofs.YtopfkkogooocgaaGreat
