import Derived.Tactics2
import Derived.Defers
import Derived.Recover
import Derived.Laws.Pointers
import Derived.WalkLawsBesides
import Derived.Deep.Cut
import Derived.Test.YtjimggclhlnfbaaGreatDoorB21
set_option maxHeartbeats 16000000
set_option linter.unusedVariables false
set_option linter.unusedSimpArgs false
set_option maxRecDepth 100000
namespace Go.Proofs.YtjimggclhlnfbaaGreatDoor
open Go.RowKit
theorem zaG (k:List Fg) (hr:RightK k) (hz:QW k) (hkl:k.length<=1073741824) (hT:(CI k).length<=1000000):Cn Tryz.prog 167 [kp k] (ns (zq k)):=by
 refine yZ rfl (enters_of Tryz.func167 (by kernel_rfl) rfl) fun D w vs hG hD hsz hd=>?_
 rw [KB hsz]
 refine(XD D k _ w hr hz hkl hT (hd 0 _ rfl) hD hG).mono ?_
 rintro e w' ⟨v,rfl,hb,ho⟩
 exact⟨v,rfl,hb,vL ho fun b o h1 h2=>.inr ⟨h1,h2⟩⟩
noncomputable def Vy (k:List Fg) (j:Nat):List Iv:=((y4 k).take j).filter fun s=>decide (0<(zU k s.lo).length)
theorem Vz (k:List Fg) {j:Nat} (h:(zq k).length<=j):Vy k j=zu k:=by
 unfold Vy zu
 rw [List.take_of_length_le (by unfold y4;rw [vO];exact h)]
theorem VB (k:List Fg) (j:Nat):(Vy k j).length<=j:=Nat.le_trans (List.length_filter_le _ _) (List.length_take_le _ _)
theorem YE {k:List Fg} {j:Nat} (h:j<(zq k).length):Vy k (j+1)=Vy k j++if zU k (zq k)[j]=[] then [] else [⟨(zq k)[j],if h:j+1<(zq k).length then (zq k)[j+1] - 1 else zk - 1⟩]:=by
 have hc:j<(y4 k).length:=by unfold y4;rw [vO];exact h
 unfold Vy
 rw [List.take_succ_eq_append_getElem hc,List.filter_append]
 congr 1
 have hg:(y4 k)[j]=⟨(zq k)[j],if h:j+1<(zq k).length then (zq k)[j+1] - 1 else zk - 1⟩:=Vx _ _ h
 rw [hg]
 by_cases h0:zU k (zq k)[j]=[]
 ·rw [if_pos h0];simp [h0]
 ·rw [if_neg h0];simp [List.length_pos_iff.2 h0]
theorem ZE {k:List Fg} (hr:RightK k) {j:Nat} (h:j+1<(zq k).length):1<=(zq k)[j+1]/\(zq k)[j+1]<zk:=by
 refine⟨?_,x7 hr _ (List.getElem_mem h)⟩
 have:=List.pairwise_iff_getElem.1 (xc k) j (j+1) (by omega) h (by omega)
 omega
theorem zdF (k:List Fg) (hr:RightK k) (hz:QW k) (hkl:k.length<=1073741824) (hT:(CI k).length<=1000000):Cn Tryz.prog 121 [kp k] (rg (zu k)):=by
 have hsl:=vY k
 have hM:=zw
 refine zt Tryz.func121 1 ?_
 refine pw ?_
 refine .c (zaG k hr hz hkl hT) ?_
 refine pLoop.go (fun j=>j<=(zq k).length) (fun j=>[(3,.sl ((Vy k j).map Q2) (.r 38 2)),(12,.v (.int .i64 (j:Nat)))]) (fun _=>[]) (fun j=>(zq k).length - j) 0 [3,12] ?_ ?_ ?_
 ·exact Nat.zero_le _
 ·refine pw ?_
  rfl
 ·rintro j hj
  have hpl:=VB k j
  refine pw ?_
  refine .i ?_ ?_<;>intro h<;>(try simp only [zb] at h)<;>first | refine pw ?_ | exact pd
  ·have hst:=YE h
   have hlt:=x7 hr _ (List.getElem_mem h)
   refine pw ?_
   refine .c (K9 k (zq k)[j] hr hz hkl) ?_
   refine .i ?_ ?_<;>intro h2<;>(try simp only [zb] at h2)<;>first | refine pw ?_ | exact pd
   ·rw [if_pos h2,List.append_nil] at hst
    exact⟨j+1,h,by omega,by rw [hst],rfl⟩
   ·rw [if_neg h2] at hst
    refine .i ?_ ?_<;>intro h3<;>(try simp only [zb] at h3)<;>first | refine pw ?_ | exact pd
    ·obtain⟨n1,n2⟩:=ZE hr h3
     rw [dif_pos h3] at hst
     refine pw ?_
     refine⟨j+1,h,by omega,?_,rfl⟩
     rw [hst]
     simp [Q2]
    ·rw [dif_neg (by omega)] at hst
     refine pw ?_
     refine⟨j+1,h,by omega,?_,rfl⟩
     rw [hst]
     simp [Q2,hM]
  ·rw [Vz k (by omega)]
structure Ok12 (C:Nat->List Nat) (R:List Nat) (k:List Fg):Prop where
 r:RightK k
 z:QW k
 l:k.length<=1048576
 t:(CI k).length<=1000000
 i:∀ f ∈ k,f.items.length<=1048576
 ik:IK C R k
 ok:OkC C R
 s:∀ f ∈ k,SmV f.vec
noncomputable def zij (k:List Fg) (s:Iv):Fg:=⟨[s],qc k s.lo⟩
theorem zil (k:List Fg) {j:Nat} (h:j<(zu k).length):((zu k).take (j+1)).map (fun s=>fc (zij k s))=((zu k).take j).map (fun s=>fc (zij k s))++[fc (zij k (zu k)[j])]:=by
 rw [List.take_succ_eq_append_getElem h,List.map_append];rfl
theorem zjf (k:List Fg) {j:Nat} (h:(zu k).length<=j):((zu k).take j).map (fun s=>fc (zij k s))=(jq k).map fc:=by
 rw [List.take_of_length_le h];unfold jq;rw [List.map_map];rfl
theorem ziJ {C:Nat->List Nat} {R:List Nat} (k:List Fg) (h12:Ok12 C R k):Cn Tryz.prog 80 [kp k] (kp (jq k)):=by
 have hpl:=xW k
 have h12t:=h12.t
 refine zt Tryz.func80 1 ?_
 refine pw ?_
 refine .c (zdF k h12.r h12.z (by have:=h12.l;omega) h12.t) ?_
 refine pLoop.go (fun j=>j<=(zu k).length) (fun j=>[(3,.sl (((zu k).take j).map (fun s=>fc (zij k s))) (.r 22 2)),(9,.v (.int .i64 (j:Nat)))]) (fun _=>[]) (fun j=>(zu k).length - j) 0 [3,9] ?_ ?_ ?_
 ·exact Nat.zero_le _
 ·exact pd
 ·rintro j hj
  refine pw ?_
  refine .i ?_ ?_<;>intro h<;>(try simp only [zb] at h)<;>first | refine pw ?_ | exact pd
  ·have hst:=zil k h
   refine .c (zgU k (zu k)[j].lo h12.ik h12.ok h12.r h12.s h12.z) ?_
   refine cutP.full rfl ?_ rfl ?_ ?_
   ·exact pd
   ·exact pd
   ·refine pw ?_
    exact⟨j+1,h,by omega,hst.symm,rfl⟩
  ·exact zjf k (by omega)
def OkX (C:Nat->List Nat) (R:List Nat):Prop:=(∀ r,(C r).length<=9000)/\R.length<=1000
theorem OkX.c {C:Nat->List Nat} {R:List Nat} (h:OkX C R):OkC C R:=⟨h.1,by have:=h.2;omega⟩
structure Kn (C:Nat->List Nat) (R:List Nat) (n:Nat) (k:List Fg):Prop where
 r:RightK k
 ik:IK C R k
 s:∀ f ∈ k,SmV f.vec
 m:qE k<=n
 l:k.length<=n
theorem Kn.z {C:Nat->List Nat} {R:List Nat} {n:Nat} {k:List Fg} (h:Kn C R n k) (hn:n<=400000):QW k:=
 ⟨by have:=h.l;omega,fun f hf=>⟨by have:=yv hf;have:=h.m;omega,by have:=(h.s f hf).2.1;omega,fun e he=>by have:=(h.s f hf).2.2 e he;omega⟩⟩
theorem Kn.ok12 {C:Nat->List Nat} {R:List Nat} {n:Nat} {k:List Fg} (h:Kn C R n k) (ok:OkX C R) (hn:n<=400000):Ok12 C R k:=
 ⟨h.r,h.z hn,by have:=h.l;omega,by have:=YO k;have:=h.m;omega,fun f hf=>by have:=yv hf;have:=h.m;omega,h.ik,ok.c,h.s⟩
theorem Kn.mono {C C':Nat->List Nat} {R R':List Nat} {n m:Nat} {k:List Fg} (h:Kn C R n k) (hC:∀ r x,x ∈ C r->x ∈ C' r) (hR:∀ x ∈ R,x ∈ R') (hn:n<=m):Kn C' R' m k:=
 ⟨h.r,fun f hf=>(h.ik f hf).mono hC hR,h.s,by have:=h.m;omega,by have:=h.l;omega⟩
theorem V1:∀ {k:List Fg},(∀ f ∈ k,f.items.length<=20)->qE k<=k.length * 20
 | [],_=>Nat.zero_le _
 | f::k,h=>by
   have h1:=V1 (k:=k) fun g hg=>h g (by simp [hg])
   have h2:=h f (by simp)
   simp only [qE,List.length_cons];omega
theorem Kn.few {k:List Fg} (h:vx k=true) (hr:RightK k):Kn (CK k) (RK k) 240 k:=by
 have h1:=X3 h
 have h2:=V1 fun f hf=>(h1.2 f hf).1
 exact⟨hr,hr.ik,fun f hf=>zfh h hr hf,by omega,by omega⟩
theorem Kn.refine {C:Nat->List Nat} {R:List Nat} {n:Nat} {k:List Fg} (h:Kn C R n k) (ok:OkX C R):Kn C R (1+2 * n) (jq k):=by
 have h1:=xW k
 have h2:=YO k
 have h3:=h.m
 have hw:=h.ik.refine
 refine⟨Yb h.r,fun f hf=>(hw f hf).iv,fun f hf=>(hw f hf).smv ok.c,?_,?_⟩
 ·unfold jq;rw [Zf];omega
 ·unfold jq;rw [List.length_map];omega
theorem Kn.group {C:Nat->List Nat} {R:List Nat} {n:Nat} {k:List Fg} (h:Kn C R n k) (ok:OkX C R):Kn C R n (zL k):=by
 have h1:=jU h.r
 have hw:∀ g ∈ zL k,WV C R g.vec:=fun g hg=>by
  obtain⟨f,hf,e⟩:=h1.2.2 g hg
  rw [e]
  exact(h.ik f hf).canVec
 exact⟨(vB h.r).right,fun g hg=>(hw g hg).iv,fun g hg=>(hw g hg).smv ok.c,by have:=h.m;omega,by have:=h.l;omega⟩
theorem Kn.take {C:Nat->List Nat} {R:List Nat} {n:Nat} {k:List Fg} (h:Kn C R n k) (j:Nat):Kn C R n (k.take j):=by
 refine⟨h.r.take j,h.ik.take j,fun f hf=>h.s f (List.mem_of_mem_take hf),?_,?_⟩
 ·have h1:=kK (k.take j) (k.drop j)
  rw [List.take_append_drop] at h1
  have:=h.m;omega
 ·have:=h.l
  have:=List.length_take_le j k
  have:=List.length_take_le' j k
  omega
end Go.Proofs.YtjimggclhlnfbaaGreatDoor
namespace Go.Proofs.YtjimggclhlnfbaaGreatDoor
open Go.RowKit
attribute [-go_sem] z7
theorem XK {C:Nat->List Nat} {R:List Nat} {n j:Nat} {k:List Fg} (h:Kn C R n k) (ok:OkX C R) (hn:n<=400000) (hj:j<k.length) (hne:¬(zi k[j].vec=[]\/k[j].items=[])):AddOk (zL (k.take j)) ⟨k[j].items,zi k[j].vec⟩:=by
 have ht:=h.take j
 have hg:=ht.group ok
 have gi:=vB ht.r
 have hm:=List.getElem_mem hj
 have hw:=(h.ik _ hm).canVec
 have hs:=jU ht.r
 have hv:∀ g ∈ zL (k.take j),WV C R g.vec:=fun g hg=>by
  obtain⟨f,hf,e⟩:=hs.2.2 g hg
  rw [e];exact(ht.ik f hf).canVec
 exact⟨gi,Yi (h.r _ hm) hne,by have:=hg.l;omega,by have:=yv hm;have:=h.m;show k[j].items.length<=_;omega,fun g h1=>by have:=yv h1;have:=hg.m;omega,hw.can.bd,fun g h1=>(gi.ok g h1).1.bd,hw.nlen ok.1 (by have:=ok.2;omega),fun g h1=>(hv g h1).nlen ok.1 (by have:=ok.2;omega)⟩
theorem zeA {P:Program} {f:FuncId} {t:Tmp} {p:Value} {xs:List Operand} {c:Call} {o:Oper} {a:Act} {w:World} {K:Act->World->Prop} {Q:Exit->Act->World->Prop} (ho:o.op=.call c) (hc:c.callee=.value (.tmp t)) (hv:a.eval (.tmp t)=.func (.func f) #[p] #[]) (ha:c.args.toList=xs)
 (he:∀ args w,(callFunc f args).run P w=.ok (.enter f args) w)
 (h:Calls P f (p::xs.map a.eval).toArray w fun e w''=>match e with | .returned v=>K (a.put o.dst v) w'' | .panicked chain=>Q (.panic chain) a w'' | .outgrown=>LetsOut Q):o.wp P a w K Q:=by
 have hr:(execOp a.eval o).run P w=.ok (.enter f (p::xs.map a.eval).toArray) w:=by
  have e:c.args.map a.eval=(xs.map a.eval).toArray:=Array.toList_inj.1 (by rw [Array.toList_map,ha])
  simp only [execOp,ho,resolve,hc,e,hv,Deferred.ofValue,Sem.run_bind,Sem.run_pure,Result.andThen_ok,invoke]
  rw [show (#[p]++(xs.map a.eval).toArray++#[]:Array Value)=(p::xs.map a.eval).toArray from by simp]
  exact he _ _
 unfold Oper.wp
 rw [hr,Oper.upon_enter]
 exact h.mono (fun e w' h=>by cases e<;>exact h)
theorem Vb {B:Nat->List Nat} {R:List Nat} {n:Nat} (C:Nat->Nat->Prop) (k:List Fg) (vk:Value) (w:World) (hk:Kn B R n k) (ok:OkX B R) (hn:n<=400000) (rk:Dat C w vk (kp k)) (hC:∀ b o,C b o->b<w.heap.size) (hG:GL C w) :
 Calls Tryz.prog 79 #[vk] w fun e w'=>∃ v,e=.returned v/\Keep (fun b=>w.heap.size<=b) w w'/\Dat (DL C w.heap.size w') w' v (kp (zL k)):=by
 have hmf:∀(fn:Fn) (first cap:Array Value) (w:World),(Instr.makeFunc fn first cap).run Tryz.prog w=.ok (.func fn first cap) w:=fun _ _ _ _=>rfl
 obtain⟨aa,ca,fs,rfl,hl,hrow,hfs⟩:=kX rk hC
 have hkl:=hk.l
 have HK:=Lib.hid hk
 have HROW:=Lib.hid hrow
 have HFS:=Lib.hid hfs
 have HGL:=Lib.hid hG
 have hca:=hrow.1
 have hcm:=hrow.2.1
 unfold maxLen at hcm
 rw [hl] at hca
 have hent:∀ args w,(callFunc 122 args).run Tryz.prog w=.ok (.enter 122 args) w:=enters_of Tryz.func122 (by kernel_rfl) rfl
 have HEN:=Lib.hid hent
 clear rk hrow hfs hG hent hk
 go_enter Tryz.func79,Tryz.ntmps79
 go_wp2_with fail
 go_loopg [11] k.length (fun g x wr=>∃ j u,j<=k.length/\g=k.length - j/\x=.int .i64 j/\Boxed wr w.heap.size 143 u/\OutG C (w.heap.size+1) (w.heap.size+2) wr u (zL (k.take j))/\Keep (fun b=>w.heap.size<=b) w wr)
 case atStart=>exact⟨0,_,Nat.zero_le _,rfl,rfl,World.alloc_heap_new w _,OutG.start _ _ _ _,(Keep.refl _ w).alloc _⟩
 case round=>
  obtain⟨j,u,hj,rfl,rfl,hbx,hout,hkr⟩:=hrel
  have HBX:=Lib.hid hbx
  have HOUT:=Lib.hid hout
  have HKR:=Lib.hid hkr
  have hrw:=hbx.lt
  have cb:=hbx.cell
  clear hbx hout hkr
  by_cases hlt:j<k.length
  ·have hltf:j<fs.length:=by omega
   obtain⟨bb,off,rfl,hbn,hcel⟩:=HROW.out.2.2 (by intro e;subst e;simp at hltf)
   obtain⟨c0,c1⟩:=hcel j hltf
   obtain⟨d0,d1⟩:=HFS.out j hltf
   replace c0:=(HKR.out.cell (p:=⟨bb,off+j * 2,none⟩) (by show bb<_;omega) (by show ¬ w.heap.size<=bb;omega)).trans c0
   replace c1:=(HKR.out.cell (p:=⟨bb,off+j * 2+1,none⟩) (by show bb<_;omega) (by show ¬ w.heap.size<=bb;omega)).trans c1
   have HAO:=Lib.hid (fun hne=>XK HK.out ok hn hlt hne)
   have HGT:=Lib.hid (Zo hlt)
   have hfm:=List.getElem_mem hlt
   have hsm:=HK.out.s _ hfm
   have hfr:=HK.out.r _ hfm
   have hil:k[j].items.length<=400000:=by have:=yv hfm;have:=HK.out.m;omega
   generalize k[j]=f at *
   generalize fs[j]=q at *
   obtain⟨ai,ci,e0⟩:=zK d0
   obtain⟨av,cv,e1⟩:=xL d1
   rw [e0] at c0 d0
   rw [e1] at c1 d1
   have hCr:∀ b o,C b o->b<wr.heap.size:=fun b o h=>by have:=hC b o h;omega
   have hGr:GL C wr:=HGL.out.mono (fun _ _ h=>h) fun b o x hc hx=>HKR.out.cell_some hx (by have:=hC b o hc;show ¬ w.heap.size<=b;omega)
   have hdm:∀(x:Value) (p:PV),Dat C w x p->∀ W,Below wr.heap.size wr W->Dat C W x p:=fun x p h W hW=>h.mono (fun _ _ h=>h) fun b o x hc hx=>(World.cell?_of_block (a:=⟨b,o,none⟩) (hW.block b (hCr b o hc))).trans (HKR.out.cell_some hx (by have:=hC b o hc;show ¬ w.heap.size<=b;omega))
   have hGW:∀ W,Below wr.heap.size wr W->GL C W:=fun W hW=>hGr.mono (fun _ _ h=>h) fun b o x hc hx=>(World.cell?_of_block (a:=⟨b,o,none⟩) (hW.block b (hCr b o hc))).trans hx
   have hcan:∀ W,Below wr.heap.size wr W->Calls Tryz.prog 123 #[.slice av f.vec.length cv] W fun e w'=>∃ a c,e=.returned (.slice a (zi f.vec).length c)/\Below W.heap.size W w'/\Dat (fun b o=>C b o\/(W.heap.size<=b/\b<w'.heap.size)) w' (.slice a (zi f.vec).length c) (vp (zi f.vec)):=fun W hW=>by
    refine(jP (D:=C) (zer f.vec hfr.2 hsm.2.1 hsm.2.2) (hGW W hW) (fun b o h=>Nat.lt_of_lt_of_le (hCr b o h) hW.size) rfl (fun i p hp=>?_)).mono ?_
    ·match i,hp with
     | 0,hp=>cases hp;exact hdm _ _ d1 W hW
     | i+1,hp=>simp at hp
    ·rintro e w' ⟨v,rfl,hb,hd⟩
     obtain⟨a,c,rfl⟩:=xL hd
     exact⟨a,c,rfl,hb,hd⟩
   have HCAN:=Lib.hid hcan
   have HD0:=Lib.hid d0
   have HDM:=Lib.hid hdm
   have HGW:=Lib.hid hGW
   have HCR:=Lib.hid hCr
   clear hcan d0 d1 hdm hGW hCr hGr hcel hfm hsm hfr e0 e1
   have tokA:True:=trivial
   by_cases h1:0<(zi f.vec).length
   ·by_cases h2:0<f.items.length
    ·go_wp2_with (first
      | (go_at_call 123;have _t:=tokA;refine(HCAN.out _ ((Below.refl _ _).alloc (Nat.le_refl _) _)).mono ?_;rintro e w3 ⟨a3,n3,rfl,hb3,hd3⟩
         have hx3:w3.heap[wr.heap.size]? = some (.cells #[.slice ai f.items.length ci,.slice av f.vec.length cv] 34 (0,0)):=(hb3.block _ (by simp)).trans (World.alloc_heap_new wr _)
         have f0:=(zW hx3 0 _ rfl).1
         have HB3:=Lib.hid (((Below.refl _ wr).alloc (Nat.le_refl _) _).trans (hb3.mono (by simp)))
         have hs3:=hb3.size
         simp only [World.size_alloc] at hs3
         have HD3:=Lib.hid hd3
         clear hb3 hd3 hx3 tokA)
      | go_in)
     refine zeA (t:=27) (xs:=[.tmp 31]) rfl rfl rfl rfl HEN.out ?_
     have hne:¬(zi f.vec=[]\/f.items=[]):=fun e=>by
      rcases e with e | e
      ·rw [e] at h1;simp at h1
      ·rw [e] at h2;simp at h2
     have hsu:=HOUT.out.owns
     refine(Jh (C:=C) (base:=w.heap.size+2) (rb:=w.heap.size) (v:=u) (o:=zL (k.take j)) (f:=⟨f.items,zi f.vec⟩) (va:=.slice ai f.items.length ci) (vv:=.slice a3 (zi f.vec).length n3) (HAO.out hne) (HOUT.out.keep (by omega) fun b hb=>HB3.out.block b hb) ((HB3.out.block _ hrw).trans HBX.out) (by omega) (by omega) hC (HGW.out _ HB3.out) ?_ ?_).mono ?_
     ·exact(HDM.out _ _ HD0.out _ HB3.out).mono (fun b o h=>⟨.inl h,fun e=>by have:=(hsu b e).1;have:=hC b o h;omega⟩) fun _ _ _ _ h=>h
     ·refine HD3.out.mono (fun b o h=>?_) fun _ _ _ _ h=>h
      rcases h with h | h
      ·exact⟨.inl h,fun e=>by have:=(hsu b e).1;have:=hC b o h;omega⟩
      ·simp only [World.size_alloc] at h
       exact⟨.inr ⟨by omega,h.2⟩,fun e=>by have:=(hsu b e).2;omega⟩
     rintro e w4 ⟨⟨u',rfl⟩,v',hbx4,hout4,hk4⟩
     have HBX4:=Lib.hid hbx4
     have HOUT4:=Lib.hid hout4
     have HK4:=Lib.hid hk4
     clear hbx4 hout4 hk4
     dsimp only
     go_wp2_with fail
     go_roundg (k.length - (j+1))
     case measure=>omega
     case rel=>
      refine⟨j+1,v',hlt,rfl,by simp,HBX4.out,?_,(HKR.out.trans (Keep.of_below' HB3.out (Nat.le_refl _))).trans (HK4.out.mono fun b _ h=>by omega)⟩
      rw [HGT.out,yo,if_neg hne]
      exact HOUT4.out
    ·have h0:f.items=[]:=by cases hf:f.items with | nil=>rfl | cons a l=>rw [hf] at h2;simp at h2
     have H0:=Lib.hid h0
     clear h0
     go_wp2_with (first
      | (go_at_call 123;have _t:=tokA;refine(HCAN.out _ ((Below.refl _ _).alloc (Nat.le_refl _) _)).mono ?_;rintro e w3 ⟨a3,n3,rfl,hb3,hd3⟩
         have hx3:w3.heap[wr.heap.size]? = some (.cells #[.slice ai f.items.length ci,.slice av f.vec.length cv] 34 (0,0)):=(hb3.block _ (by simp)).trans (World.alloc_heap_new wr _)
         have f0:=(zW hx3 0 _ rfl).1
         have HB3:=Lib.hid (((Below.refl _ wr).alloc (Nat.le_refl _) _).trans (hb3.mono (by simp)))
         have hs3:=hb3.size
         simp only [World.size_alloc] at hs3
         clear hb3 hd3 hx3 tokA)
      | go_in)
     go_roundg (k.length - (j+1))
     case measure=>omega
     case rel=>
      refine⟨j+1,u,hlt,rfl,by simp,(HB3.out.block _ hrw).trans HBX.out,?_,HKR.out.trans (Keep.of_below' HB3.out (Nat.le_refl _))⟩
      rw [HGT.out,yo,if_pos (.inr H0.out)]
      exact HOUT.out.keep (by omega) fun b hb=>HB3.out.block b hb
   ·have h0:zi f.vec=[]:=by cases hf:zi f.vec with | nil=>rfl | cons a l=>rw [hf] at h1;simp at h1
    have H0:=Lib.hid h0
    clear h0
    go_wp2_with (first
     | (go_at_call 123;have _t:=tokA;refine(HCAN.out _ ((Below.refl _ _).alloc (Nat.le_refl _) _)).mono ?_;rintro e w3 ⟨a3,n3,rfl,hb3,hd3⟩
        have HB3:=Lib.hid (((Below.refl _ wr).alloc (Nat.le_refl _) _).trans (hb3.mono (by simp)))
        have hs3:=hb3.size
        simp only [World.size_alloc] at hs3
        clear hb3 hd3 tokA)
     | go_in)
    go_roundg (k.length - (j+1))
    case measure=>omega
    case rel=>
     refine⟨j+1,u,hlt,rfl,by simp,(HB3.out.block _ hrw).trans HBX.out,?_,HKR.out.trans (Keep.of_below' HB3.out (Nat.le_refl _))⟩
     rw [HGT.out,yo,if_pos (.inl H0.out)]
     exact HOUT.out.keep (by omega) fun b hb=>HB3.out.block b hb
  ·obtain rfl:j=k.length:=by omega
   go_wp2_with fail
   refine bodyPost_ret (results_tmp rfl _ _ _) rfl ?_
   have h:=HOUT.out.dat (by omega)
   rw [List.take_length] at h
   exact⟨_,rfl,HKR.out,h.mono (fun b o h=>h.imp id fun h=>⟨by omega,h.2⟩) fun _ _ _ _ h=>h⟩
theorem zfn {B:Nat->List Nat} {R:List Nat} {n:Nat} (k:List Fg) (hk:Kn B R n k) (ok:OkX B R) (hn:n<=400000):Cn Tryz.prog 79 [kp k] (kp (zL k)):=by
 refine yZ rfl (enters_of Tryz.func79 (by kernel_rfl) rfl) fun D w vs hG hD hsz hd=>?_
 rw [KB hsz]
 refine(Vb D k _ w hk ok hn (hd 0 _ rfl) hD hG).mono ?_
 rintro e w' ⟨v,rfl,hb,hv⟩
 exact⟨v,rfl,hb.below (Nat.le_refl _) fun _ h h'=>by omega,hv.mono (fun _ _ h=>h.imp id fun h=>⟨Nat.le_of_lt h.1,h.2⟩) fun _ _ _ _ h=>h⟩
theorem YI (w:World) (t ty:TypeId) (ht:Tryz.prog.underlying t=some (.slice 34)) (base:Nat) (v:Value) (n:Nat) (xs:List Value) (hown:w.ownsRow base 34 2 v n xs) (ad:Option Addr) (m c:Nat) (news:List Value) (hl:news.length=m * 2)
 (hnews:(m=0/\ad=none)\/∃ a,ad=some a/\∀ j u,news[j]? = some u->w.cell? (a.add j)=some u) (h1:∀ u ∈ news,u.oneCell'=true) (h63:n+m<=1073741824) (hbase:base<=w.heap.size) :
 ∃ v' w',(Builtin.append_ #[t,t] ty #[v,.slice ad m c]).run Tryz.prog w=.ok v' w'/\w'.ownsRow base 34 2 v' (n+m) (xs++news)/\w.grownBy w' v.ownBlock/\(v'.ownBlock=v.ownBlock\/v'.ownBlock=some w.heap.size):=by
 obtain⟨i0,hi0,hz0,hz1,hz2⟩:=info_parts Z9
 rcases hnews with⟨rfl,rfl⟩ | ⟨a,rfl,hn⟩
 ·obtain rfl:news=[]:=List.length_eq_zero_iff.1 hl
  obtain⟨ba,cp,rfl,hcp⟩:∃ ba cp,v=.slice ba n cp/\n<=cp:=by
   rcases hown.2 with⟨rfl,rfl⟩ | ⟨g,cap,cur,rfl,_,_,h,_⟩
   ·exact⟨none,0,rfl,Nat.le_refl _⟩
   ·exact⟨_,_,rfl,h⟩
  exact⟨_,w,ve w t ty _ i0 ht hi0 ba n cp c hcp,by simpa using hown,jW _ _,.inl rfl⟩
 ·obtain⟨v',w',r1,r2,r3,_,r5⟩:=run_append_own_at (P:=Tryz.prog) w base t ty 34 i0 _ 2 48 ht hi0 hz0 hz1 hz2 rfl (by decide) v n xs hown a m c news (by simpa using hl) hn h1 (by unfold maxLen;omega) (by omega) hbase
  exact⟨v',w',r1,r2,r3,r5⟩
theorem OutG.at {C:Nat->Nat->Prop} {mb base:Nat} {w:World} {ad:Option Addr} {cap:Nat} {o:List Fg} (h:OutG C mb base w (.slice ad o.length cap) o) {i:Nat} (hi:i<o.length) :
 ∃ g ai ci av cv cur,ad=some ⟨g,0,none⟩/\base<=g/\w.heap[g]? = some (.cells cur 34 (0,0))/\w.cell? ⟨g,i * 2,none⟩=some (.slice ai o[i].items.length ci)/\w.cell? ⟨g,i * 2+1,none⟩=some (.slice av o[i].vec.length cv) /\
  Dat (DX C mb w (.slice ad o.length cap)) w (.slice ai o[i].items.length ci) (rg o[i].items)/\Dat (DX C mb w (.slice ad o.length cap)) w (.slice av o[i].vec.length cv) (vp o[i].vec):=by
 obtain⟨xs,hxs,hel⟩:=h
 obtain⟨a,b,ea,eb,da,db⟩:=hel i hi
 obtain⟨g,cap',cur,ev,hgb,hgl,hgc,_⟩:=hxs.cases.resolve_left (fun h=>by omega)
 obtain⟨rfl,_,rfl⟩:ad=some ⟨g,0,none⟩/\o.length=o.length/\cap=cap':=by simpa using ev
 have hc:∀ j x,xs[j]? = some x->w.cell? ⟨g,j,none⟩=some x:=fun j x hx=>by
  have:=World.ownsRow.cells hxs.1 (g:=g) rfl j x hx
  rw [zh,Nat.zero_add] at this
  exact this
 obtain⟨ai,ci,rfl⟩:=zK da
 obtain⟨av,cv,rfl⟩:=xL db
 exact⟨g,ai,ci,av,cv,cur,rfl,hgb,hgc,hc _ _ ea,hc _ _ eb,da,db⟩
theorem zdp (s:ByteArray) (w:World):Calls Tryz.prog 83 #[.string s,.nilIface] w fun e w'=>(∃ u,e=.returned u)/\w'=w:=by
 go_enter Tryz.func83,Tryz.ntmps83
 go_wp2
 go_end0
 exact⟨⟨_,rfl⟩,rfl⟩
theorem JI (p:Addr) (w:World) :
 CallsD Tryz.prog 82 #[.pointer (some p)] .returning w fun e u' w'=>e=.returned (.tuple #[])/\u'=.returning/\w'=w:=by
 refine callsD_of_wpS Tryz.func82 rfl fun c₀ cs hu=>?_
 apply wpS_seq
 apply wpS_region
 simp [wpOpsS,go_sem,recoverD,hu,Tryz.ntmps82,Exit.thenS]
 refine wpS_of_wp ?_
 go_wp2
 cases c₀
 simp_all [bodyPostS,results,Tryz.results82]
end Go.Proofs.YtjimggclhlnfbaaGreatDoor
namespace Go.Proofs.YtjimggclhlnfbaaGreatDoor
open Go.RowKit
end Go.Proofs.YtjimggclhlnfbaaGreatDoor
namespace Go.Proofs.YtjimggclhlnfbaaGreatDoor
open Go.RowKit
attribute [-go_sem] z7
theorem BdK.of {k:List Fg} (h:RightK k) (hz:QW k):BdK k:=by
 refine⟨fun f hf=>⟨?_,fun e he=>Jg ((h f hf).2.1 e he),by have:=(hz.2 f hf).1;omega,by have:=(hz.2 f hf).2.1;omega⟩,by have:=hz.1;omega⟩
 intro s hs
 have:=NF.lo_ge (h f hf).1 s hs
 omega
theorem KH {C:Nat->Nat->Prop} {w0 w:World} {k:List Fg} {v:Value} (hr:RightK k) (hz:QW k) (hd:Dat C w0 v (kp k)) (hC:∀ b o,C b o->b<w0.heap.size) (hG:GL C w0) (hb:Below w0.heap.size w0 w) :
 Calls Tryz.prog 59 #[v] w fun e w'=>e=.returned .nilIface/\Below w.heap.size w w':=by
 have hbd:=BdK.of hr hz
 have hc:=Vh k hbd hz
 rw [yk ((ZN hbd).2 hr)] at hc
 have hw:∀ b o x,C b o->w0.cell? ⟨b,o,none⟩=some x->w.cell? ⟨b,o,none⟩=some x:=fun b o x h hx=>(World.cell?_of_block (a:=⟨b,o,none⟩) (hb.block b (hC b o h))).trans hx
 refine(jP (D:=C) hc (hG.mono (fun _ _ h=>h) hw) (fun b o h=>Nat.lt_of_lt_of_le (hC b o h) hb.size) rfl (fun i p hp=>?_)).mono ?_
 ·match i,hp with
  | 0,hp=>cases hp;exact hd.mono (fun _ _ h=>h) hw
  | i+1,hp=>simp at hp
 ·rintro e w' ⟨u,rfl,hb',hd'⟩
  have e:=(Rel.dat (ρ:=fun _=>0) (nb:=0) hd').v_inv
  rw [e]
  exact⟨rfl,hb'⟩
end Go.Proofs.YtjimggclhlnfbaaGreatDoor
namespace Go.Proofs.YtjimggclhlnfbaaGreatDoor
open Go.RowKit
structure Rt12 (k:List Fg):Prop where
 f:vx k=true
 r:RightK k
 kn:Kn (CK k) (RK k) 240 k
 ok:OkX (CK k) (RK k)
theorem Rt12.o {k:List Fg} (h:Rt12 k):Ok12 (CK k) (RK k) k:=h.kn.ok12 h.ok (by omega)
end Go.Proofs.YtjimggclhlnfbaaGreatDoor
namespace Go.Proofs.YtjimggclhlnfbaaGreatDoor
open Go.RowKit
attribute [-go_sem] z7
def qB (fs:List Fv):List Value:=fs.flatMap fun f=>[sv f.1,sv f.2]
theorem Yo:∀(fs:List Fv) (j:Nat) (u:Value),(qB fs)[j]? = some u->∃ i,∃ h:i<fs.length,(j=i * 2/\u=sv fs[i].1)\/(j=i * 2+1/\u=sv fs[i].2)
 | [],j,u,h=>by simp [qB] at h
 | f::fs,0,u,h=>⟨0,by simp,.inl ⟨rfl,by simpa [qB] using h.symm⟩⟩
 | f::fs,1,u,h=>⟨0,by simp,.inr ⟨rfl,by simpa [qB] using h.symm⟩⟩
 | f::fs,j+2,u,h=>by
   obtain⟨i,hi,h'⟩:=Yo fs j u (by simpa [qB] using h)
   refine⟨i+1,by simp;omega,?_⟩
   rcases h' with⟨e,e2⟩ | ⟨e,e2⟩
   ·exact .inl ⟨by omega,by simpa using e2⟩
   ·exact .inr ⟨by omega,by simpa using e2⟩
theorem Z5:∀(fs:List Fv) (i:Nat) (h:i<fs.length),(qB fs)[i * 2]? = some (sv fs[i].1)/\(qB fs)[i * 2+1]? = some (sv fs[i].2)
 | f::fs,0,h=>⟨rfl,rfl⟩
 | f::fs,i+1,h=>by
   have:=Z5 fs i (by simpa using h)
   rw [show (i+1) * 2=i * 2+2 by omega]
   exact⟨by simpa [qB] using this.1,by simpa [qB] using this.2⟩
theorem jf (fs:List Fv):(qB fs).length=fs.length * 2:=by
 induction fs with
 | nil=>rfl
 | cons f fs ih=>simp [qB] at ih ⊢;omega
theorem jg (fs:List Fv):∀ u ∈ qB fs,u.oneCell'=true:=fun u hu=>by
 obtain⟨f,_,hf⟩:=List.mem_flatMap.1 hu
 simp at hf
 rcases hf with rfl | rfl<;>rfl
theorem Zn {n0:Nat} {w W:World} {av:Option Addr} {cap:Nat} {fs:List Fv} (h:zeF n0 w av cap fs) (hW:∀ b o x,b<n0->w.cell? ⟨b,o,none⟩=some x->W.cell? ⟨b,o,none⟩=some x):(fs.length=0/\av=none)\/∃ a,av=some a/\∀ j u,(qB fs)[j]? = some u->W.cell? (a.add j)=some u:=by
 by_cases h0:fs=[]
 ·subst h0
  cases av with
  | none=>exact .inl ⟨rfl,rfl⟩
  | some a=>exact .inr ⟨a,rfl,fun j u h=>by simp [qB] at h⟩
 ·obtain⟨b,off,rfl,hb,hc⟩:=h.2.2 h0
  refine .inr ⟨_,rfl,fun j u hj=>?_⟩
  obtain⟨i,hi,h'⟩:=Yo fs j u hj
  rw [zh]
  rcases h' with⟨rfl,rfl⟩ | ⟨rfl,rfl⟩
  ·exact hW _ _ _ hb (hc i hi).1
  ·exact hW _ _ _ hb (by rw [<-Nat.add_assoc];exact(hc i hi).2)
theorem Jb {ops:Array Oper} {rest:List Oper} {o:Oper} {a:Act} {w:World} {Q:Exit->Act->World->Prop} (s x:Operand) (t:TypeId) (hgd:o.guard=none)
 (ho:o.op=.call { callee:=.builtin .append,args:=#[s,x],argTypes:=#[t,t] }) (ht:Tryz.prog.underlying t=some (.slice 34)) (base:Nat) (v:Value) (n:Nat) (xs:List Value) (hs:a.eval s=v) (hown:w.ownsRow base 34 2 v n xs)
 (ad:Option Addr) (m c:Nat) (news:List Value) (hx:a.eval x=.slice ad m c) (hl:news.length=m * 2) (hnews:(m=0/\ad=none)\/∃ a,ad=some a/\∀ j u,news[j]? = some u->w.cell? (a.add j)=some u) (h1:∀ u ∈ news,u.oneCell'=true) (h63:n+m<=1073741824) (hbase:base<=w.heap.size)
 (h:∀ v' w',w'.ownsRow base 34 2 v' (n+m) (xs++news)->w.grownBy w' v.ownBlock->(v'.ownBlock=v.ownBlock\/v'.ownBlock=some w.heap.size)->wpList Tryz.prog ops Q rest (a.put o.dst v') w'):wpList Tryz.prog ops Q (o::rest) a w:=by
 have hw:Region.wanted o (yielded ops a.tmps)=true:=by simp [Region.wanted,hgd]
 unfold wpList
 rw [if_pos hw]
 refine .inl ?_
 obtain⟨v',w',hr,h2,h3,h4⟩:=YI w t o.type ht base v n xs hown ad m c news hl hnews h1 h63 hbase
 unfold Oper.wp execOp
 simp only [ho,resolve,invoke,builtin,Sem.run_bind,Sem.run_pure,Result.andThen_ok,List.map_toArray,List.map_cons,List.map_nil,hs,hx,hr]
 exact h v' w' h2 h3 h4
theorem OutG.two {C:Nat->Nat->Prop} {mb base:Nat} {w0 w:World} {v:Value} {a b:List Fg} {fa fb:List Fv} (hla:fa.length=a.length) (hlb:fb.length=b.length) (ho:w.ownsRow base 34 2 v (0+a.length+b.length) ([]++qB fa++qB fb))
 (hC:∀ b o,C b o->b<w0.heap.size) (hb:Below w0.heap.size w0 w) (hbase:w0.heap.size<=base)
 (da:∀ i (h:i<fa.length),Dat C w0 (sv fa[i].1) (rg (a[i]'(hla ▸ h)).items)/\Dat C w0 (sv fa[i].2) (vp (a[i]'(hla ▸ h)).vec)) (db:∀ i (h:i<fb.length),Dat C w0 (sv fb[i].1) (rg (b[i]'(hlb ▸ h)).items)/\Dat C w0 (sv fb[i].2) (vp (b[i]'(hlb ▸ h)).vec)):OutG C mb base w v (a++b):=by
 have key:∀ {x:Value} {p:PV},Dat C w0 x p->Dat (DX C mb w v) w x p:=fun h=>h.mono (fun b o h=>⟨.inl h,fun e=>by have:=(ho.lt b e).1;have:=hC b o h;omega⟩) fun b o x hc hx=>(World.cell?_of_block (a:=⟨b,o,none⟩) (hb.block b (hC b o hc))).trans hx
 have hl:=jf fa
 have hl2:=jf fb
 refine⟨qB fa++qB fb,⟨by rw [List.length_append,<-Nat.zero_add a.length];exact ho,by simp;omega,fun u hu=>?_⟩,fun i hi=>?_⟩
 ·rcases List.mem_append.1 hu with hu | hu
  ·exact jg fa u hu
  ·exact jg fb u hu
 ·by_cases h1:i<a.length
  ·obtain⟨e1,e2⟩:=Z5 fa i (by omega)
   obtain⟨d1,d2⟩:=da i (by omega)
   have hg:(a++b)[i]=a[i]:=List.getElem_append_left h1
   rw [hg]
   exact⟨_,_,by rw [List.getElem?_append_left (by omega)];exact e1,by rw [List.getElem?_append_left (by omega)];exact e2,key d1,key d2⟩
  ·have hib:i - a.length<b.length:=by simp at hi;omega
   obtain⟨e1,e2⟩:=Z5 fb (i - a.length) (by omega)
   obtain⟨d1,d2⟩:=db (i - a.length) (by omega)
   have hg:(a++b)[i]=b[i - a.length]:=List.getElem_append_right (by omega)
   rw [hg]
   exact⟨_,_,by rw [List.getElem?_append_right (by omega),hl,show i * 2 - fa.length * 2=(i - a.length) * 2 by omega];exact e1,by rw [List.getElem?_append_right (by omega),hl,show i * 2+1 - fa.length * 2=(i - a.length) * 2+1 by omega];exact e2,key d1,key d2⟩
end Go.Proofs.YtjimggclhlnfbaaGreatDoor
namespace Go.Proofs.YtjimggclhlnfbaaGreatDoor
open Go.RowKit
def CKL (l:List (List Fg)) (r:Nat):List Nat:=l.flatMap fun k=>CK k r
def RKL (l:List (List Fg)):List Nat:=l.flatMap RK
theorem zam {l:List (List Fg)} (hl:l.length<=4) (h:∀ k ∈ l,vx k=true/\RightK k):OkX (CKL l) (RKL l):=by
 refine⟨fun r=>?_,?_⟩
 ·have h1:(CKL l r).length<=l.length * 1512:=qL (n:=1512) fun k hk=>(X4 (h k hk).1 (h k hk).2).1 r
  omega
 ·have h1:(RKL l).length<=l.length * 240:=qL (n:=240) fun k hk=>(X4 (h k hk).1 (h k hk).2).2.1
  omega
theorem Kn.all {l:List (List Fg)} {k:List Fg} (hk:k ∈ l) (h:vx k=true) (hr:RightK k):Kn (CKL l) (RKL l) 240 k:=
 (Kn.few h hr).mono (fun r x hx=>List.mem_flatMap.2 ⟨k,hk,hx⟩) (fun x hx=>List.mem_flatMap.2 ⟨k,hk,hx⟩) (Nat.le_refl _)
theorem Kn.at {C:Nat->List Nat} {R:List Nat} {n:Nat} {k:List Fg} (h:Kn C R n k) (ok:OkX C R) (x:Nat):SmV (qc k x):=(h.ik.at x).1.smv ok.c
theorem Kn.app {C:Nat->List Nat} {R:List Nat} {n m:Nat} {a b:List Fg} (ha:Kn C R n a) (hb:Kn C R m b):Kn C R (n+m) (a++b):=by
 refine⟨ha.r.app hb.r,fun f hf=>(List.mem_append.1 hf).elim (ha.ik f) (hb.ik f),fun f hf=>(List.mem_append.1 hf).elim (ha.s f) (hb.s f),?_,?_⟩
 ·have:=kK a b;have:=ha.m;have:=hb.m;omega
 ·rw [List.length_append];have:=ha.l;have:=hb.l;omega
theorem Kn.parts {C:Nat->List Nat} {R:List Nat} {n m:Nat} {f:Bool->Bool->Bool} (hf:f false false=false) {a b:List Fg} (ha:Kn C R n a) (hb:Kn C R m b) (ok:OkX C R):Kn C R (1+2 * (n+m)) (yy f a b):=by
 have h1:=xW (a++b)
 have h2:=YO (a++b)
 have h3:=kK a b
 have h4:=ha.m
 have h5:=hb.m
 have hw:∀ g ∈ yy f a b,WV C R g.vec:=fun g hg=>by
  obtain⟨s,_,rfl⟩:=List.mem_map.1 hg
  exact IV.lat hf (ha.ik.at s.lo).1.iv (hb.ik.at s.lo).1.iv
 refine⟨xU ha.r hb.r,fun f hf=>(hw f hf).iv,fun f hf=>(hw f hf).smv ok.c,?_,?_⟩
 ·unfold yy;rw [Zf];omega
 ·unfold yy;rw [List.length_map];omega
theorem Kn.do {C:Nat->List Nat} {R:List Nat} {n m:Nat} {f:Bool->Bool->Bool} (hf:f false false=false) {a b:List Fg} (ha:Kn C R n a) (hb:Kn C R m b) (ok:OkX C R):Kn C R (1+2 * (n+m)) (vh f a b):=(ha.parts hf hb ok).group ok
theorem Kn.canon {C:Nat->List Nat} {R:List Nat} {n:Nat} {k:List Fg} (h:Kn C R n k) (ok:OkX C R):Kn C R (1+2 * n) (zbx k):=(h.refine ok).group ok
noncomputable def Zx (f:Bool->Bool->Bool) (a b:List Fg) (s:Iv):Fg:=⟨[s],ks f (qc a s.lo) (qc b s.lo)⟩
theorem Qr (f:Bool->Bool->Bool) (a b:List Fg) {j:Nat} (h:j<(zu (a++b)).length):((zu (a++b)).take (j+1)).map (fun s=>fc (Zx f a b s))=((zu (a++b)).take j).map (fun s=>fc (Zx f a b s))++[fc (Zx f a b (zu (a++b))[j])]:=by
 rw [List.take_succ_eq_append_getElem h,List.map_append];rfl
theorem YC (f:Bool->Bool->Bool) (a b:List Fg) {j:Nat} (h:(zu (a++b)).length<=j):((zu (a++b)).take j).map (fun s=>fc (Zx f a b s))=(yy f a b).map fc:=by
 rw [List.take_of_length_le h];unfold yy;rw [List.map_map];rfl
def KQ:Nat->Code->Code
 | 0,c=>c
 | n+1,.seq _ c=>KQ n c
 | _,c=>c
theorem zjO {B:Nat->List Nat} {R:List Nat} {n:Nat} (f:Bool->Bool->Bool) (hf:f false false=false) (op:FuncId) (a b:List Fg) (ha:Kn B R n a) (hb:Kn B R n b) (ok:OkX B R) (hn:n<=40000)
 (hop:∀ x,Cn Tryz.prog op [vp (qc a x),vp (qc b x)] (vp (ks f (qc a x) (qc b x)))) :
 pW Tryz.prog Tryz.f75.ntmps True ((qx Tryz.prog Tryz.f75.ntmps [] (KQ 7 (xN Tryz.f75))).getD .sk) (jG [.t 6,.c 7 false 1] (.tup [kp (vh f a b),.v .nilIface])) ⟨[(0,kp a),(1,kp b),(2,.fn (.func op) [] []),(7,.bx 0 0),(8,kp (a++b)),(9,.sl [] .z)],[[.v .nilIface]]⟩:=by
 have hab:=ha.app hb
 have h12:=hab.ok12 ok (by omega)
 have ha12:=ha.ok12 ok (by omega)
 have hb12:=hb.ok12 ok (by omega)
 have hpl:=xW (a++b)
 have h12t:=h12.t
 have hpa:=ha.parts hf hb ok
 have hgr:=zfn (yy f a b) hpa ok (by omega)
 conv=>arg 4;cbv
 refine pw ?_
 refine .c (zdF (a++b) h12.r h12.z (by have:=h12.l;omega) h12.t) ?_
 refine pLoop.go (fun j=>j<=(zu (a++b)).length) (fun j=>[(9,.sl (((zu (a++b)).take j).map (fun s=>fc (Zx f a b s))) (.r 51 2)),(32,.v (.int .i64 (j:Nat)))]) (fun _=>[[.v .nilIface]]) (fun j=>(zu (a++b)).length - j) 0 [9,32] ?_ ?_ ?_
 ·exact Nat.zero_le _
 ·exact pd
 ·rintro j hj
  refine pw ?_
  refine .i ?_ ?_<;>intro h<;>(try simp only [zb] at h)<;>first | refine pw ?_ | exact pd
  ·have hst:=Qr f a b h
   refine .c (zgU a (zu (a++b))[j].lo ha12.ik ha12.ok ha12.r ha12.s ha12.z) ?_
   refine .c (zgU b (zu (a++b))[j].lo hb12.ik hb12.ok hb12.r hb12.s hb12.z) ?_
   have hcl:=hop (zu (a++b))[j].lo
   (first | refine .c (hcl) ?_ | refine .o (hcl) ?_)
   refine cutP.full rfl ?_ rfl ?_ ?_
   ·exact pd
   ·exact pd
   ·refine pw ?_
    exact⟨j+1,h,by omega,hst.symm,rfl⟩
  ·have hg2:Cn Tryz.prog 79 [.sl (((zu (a++b)).take j).map (fun s=>fc (Zx f a b s))) .sh] (kp (vh f a b)):=by rw [YC f a b (by omega)];exact hgr
   (first | exact .d (hg2) | exact .q (hg2))
def orI:List Int->Int
 | []=>0
 | x::l=>if x=0 then orI l else x
theorem zng (l:List Int) (hl:l.length<=1000):Cn Tryz.prog 143 [.sl (l.map fun x=>[.v (.int .i64 x)]) .sh] (.v (.int .i64 (orI l))):=by
 refine zt Tryz.func143 1 ?_
 refine pw ?_
 refine pLoop.go (fun k=>k<=l.length/\orI l=orI (l.drop k)) (fun k=>[(8,.v (.int .i64 (k:Nat)))]) (fun _=>[]) (fun k=>l.length - k) 0 [8] ?_ ?_ ?_
 ·exact⟨Nat.zero_le _,rfl⟩
 ·exact pd
 ·rintro k ⟨hk,ho⟩
  refine pw ?_
  refine .i ?_ ?_<;>intro h<;>(try simp only [zb] at h)<;>first | refine pw ?_ | exact pd
  ·have hd:orI (l.drop k)=if l[k]=0 then orI (l.drop (k+1)) else l[k]:=by
    rw [List.drop_eq_getElem_cons h];rfl
   refine .i ?_ ?_<;>intro h2<;>(try simp only [zb] at h2)<;>first | refine pw ?_ | exact pd
   ·rw [ho,hd,if_neg h2]
   ·refine⟨k+1,⟨h,?_⟩,by omega,rfl⟩
    rw [ho,hd,if_pos (by omega)]
  ·rw [ho,List.drop_of_length_le (by omega)];rfl
def trc (t:Tr):List PV:=[.v (.int .u64 t.1),.v (.int .u64 t.2.1),.v (.int .u64 t.2.2)]
def trp (t:Tr):PV:=.agg (trc t)
attribute [go_sem] trc trp
theorem zi6 (t u:Tr):Cn Tryz.prog 95 [trp t,trp u] (.v (.int .i64 (zeY t u))):=by
 have ho:=zng [if t.1<u.1 then -1 else if u.1<t.1 then 1 else 0,if t.2.1<u.2.1 then -1 else if u.2.1<t.2.1 then 1 else 0,if t.2.2<u.2.2 then -1 else if u.2.2<t.2.2 then 1 else 0] (by simp)
 have e:orI [if t.1<u.1 then -1 else if u.1<t.1 then 1 else 0,if t.2.1<u.2.1 then -1 else if u.2.1<t.2.1 then 1 else 0,if t.2.2<u.2.2 then -1 else if u.2.2<t.2.2 then 1 else 0]=zeY t u:=by
  unfold zeY
  simp only [orI,zZ]
  repeat' split
  all_goals first | rfl | omega
 rw [e] at ho
 refine zt Tryz.func95 2 ?_
 refine pw ?_
 refine .c (XQ t.1 u.1) ?_
 refine .c (XQ t.2.1 u.2.1) ?_
 refine .c (XQ t.2.2 u.2.2) ?_
 (first | exact .d (ho) | exact .q (ho))
def qA (l:List Iv):Iv:=if h:0<l.length then ⟨l[0].lo,(l[l.length - 1]'(by omega)).hi⟩ else ⟨0,0⟩
theorem zhU (l:List Iv) (hl:l.length<=9223372036854775807):Cn Tryz.prog 140 [rg l] (.tup [Je (qA l),.v (.bool (decide (0<l.length)))]):=by
 refine zt Tryz.func140 1 ?_
 refine pw ?_
 refine .i ?_ ?_<;>intro h<;>(try simp only [zb] at h)<;>first | refine pw ?_ | exact pd
 ·subst h
  rfl
 ·have hp:0<l.length:=List.length_pos_iff.2 h
  rw [qA,dif_pos hp,decide_eq_true hp]
  exact pd
theorem KY (l:List Iv) (hl:l.length<=9223372036854775807):Cn Tryz.prog 93 [rg l] (.tup [.v (.int .u64 (qA l).lo),.v (.bool (decide (0<l.length)))]):=by
 refine zt Tryz.func93 1 ?_
 refine pw ?_
 exact .d (zhU l hl)
theorem K5 {s:Iv} {l:List Iv}:(qA (s::l)).lo=s.lo:=by simp [qA]
def xm (k:List Fg) (j:Nat):Option Tr:=((k.take j).flatMap V3).foldl Vq none
theorem zbi (k:List Fg):xm k 0=none:=rfl
def kt (o:Option Tr) (x:Nat) (v:List En) (i:Nat):Option Tr:=((v.take i).flatMap (XE x)).foldl Vq o
theorem zbg (o:Option Tr) (x:Nat) (v:List En):kt o x v 0=o:=rfl
theorem zbh {k:List Fg} {j:Nat} (h:j<k.length):xm k (j+1)=(V3 k[j]).foldl Vq (xm k j):=by
 unfold xm
 rw [List.take_succ_eq_append_getElem h,List.flatMap_append,List.foldl_append]
 simp
theorem zbf {o:Option Tr} {x:Nat} {v:List En} {i:Nat} (h:i<v.length):kt o x v (i+1)=(XE x v[i]).foldl Vq (kt o x v i):=by
 unfold kt
 rw [List.take_succ_eq_append_getElem h,List.flatMap_append,List.foldl_append]
 simp
theorem zem {f:Fg} (h:¬ 0<f.items.length):V3 f=[]:=by
 unfold V3
 rw [List.length_eq_zero_iff.1 (show f.items.length=0 by omega)]
theorem zbR {f:Fg} (h:0<f.items.length):V3 f=f.vec.flatMap (XE (qA f.items).lo):=by
 unfold V3
 cases hf:f.items with
 | nil=>rw [hf] at h;cases h
 | cons s l=>rw [K5]
theorem zel {x:Nat} {e:En} (h:¬ 0<(kn e).length):XE x e=[]:=by
 unfold XE
 rw [List.length_eq_zero_iff.1 (show (kn e).length=0 by omega)]
theorem zbQ {x:Nat} {e:En} (h:0<(kn e).length):XE x e=[(x,e.rep,(qA (kn e)).lo)]:=by
 unfold XE
 cases hf:kn e with
 | nil=>rw [hf] at h;cases h
 | cons s l=>rw [K5]
theorem zfE {C:Nat->List Nat} {R:List Nat} (k:List Fg) (h12:Ok12 C R k):Cn Tryz.prog 40 [kp k] (.tup [trp ((kY k).getD (0,0,0)),.v (.bool (kY k).isSome),.v .nilIface]):=by
 have hr:=h12.r
 have hz:=h12.z
 have hbd:=BdK.of hr hz
 have hc:=Vh k hbd hz
 rw [yk ((ZN hbd).2 hr)] at hc
 have hz1:=hz.1
 refine zt Tryz.func40 1 ?_
 refine pw ?_
 (first | refine .c (hc) ?_ | refine .o (hc) ?_)
 refine pLoop.go (fun j=>j<=k.length) (fun j=>[(7,.v (.bool (xm k j).isSome)),(26,.v (.int .i64 (j:Nat)))]) (fun j=>[trc (0,0,0),trc ((xm k j).getD (0,0,0))]) (fun j=>k.length - j) 0 [7,26] ?_ ?_ ?_
 ·exact Nat.zero_le _
 ·simp only [zbi,Option.isSome_none,Option.getD_none]
  exact pd
 ·rintro j hj
  refine pw ?_
  refine .i ?_ ?_<;>intro h<;>(try simp only [zb] at h)<;>first | refine pw ?_ | exact pd
  ·have hf:=hz.2 _ (List.getElem_mem h)
   have hrf:=hr _ (List.getElem_mem h)
   have hsv:=h12.s _ (List.getElem_mem h)
   have hs:=zbh h
   refine .c (KY k[j].items (by omega)) ?_
   refine .i ?_ ?_<;>intro h2<;>(try simp only [zb] at h2)<;>first | refine pw ?_ | exact pd
   ·rw [zem (by omega)] at hs
    have e:xm k (j+1)=xm k j:=hs
    exact⟨j+1,h,by omega,⟨by rw [e],rfl⟩,by rw [e],by rw [e],by rw [e]⟩
   ·rw [zbR h2] at hs
    refine pLoop.go (fun i=>i<=k[j].vec.length) (fun i=>[(7,.v (.bool (kt (xm k j) (qA k[j].items).lo k[j].vec i).isSome)),(41,.v (.int .i64 (i:Nat)))]) (fun i=>[trc (0,0,0),trc ((kt (xm k j) (qA k[j].items).lo k[j].vec i).getD (0,0,0)),fc k[j]]) (fun i=>k[j].vec.length - i) 0 [7,41] ?_ ?_ ?_
    ·exact Nat.zero_le _
    ·simp only [zbg]
     exact pd
    ·rintro i hi
     refine pw ?_
     refine .i ?_ ?_<;>intro h3<;>(try simp only [zb] at h3)<;>first | refine pw ?_ | exact pd
     ·have hre:=hrf.2.1 _ (List.getElem_mem h3)
      have hhl:=hsv.2.2 _ (List.getElem_mem h3)
      have hkl:=kW k[j].vec[i]
      have hI:=zbf (o:=xm k j) (x:=(qA k[j].items).lo) h3
      refine .c (XZ k[j].vec[i] hre (by omega)) ?_
      refine .c (KY (kn k[j].vec[i]) (by omega)) ?_
      refine .i ?_ ?_<;>intro h4<;>(try simp only [zb] at h4)<;>first | refine pw ?_ | exact pd
      ·rw [zbQ h4] at hI
       cases ho:kt (xm k j) (qA k[j].items).lo k[j].vec i with
       | none=>
         simp only [ho,Option.isSome_none,Option.getD_none]
         rw [ho] at hI
         refine pw ?_
         have e:kt (xm k j) (qA k[j].items).lo k[j].vec (i+1)=some ((qA k[j].items).lo,k[j].vec[i].rep,(qA (kn k[j].vec[i])).lo):=hI
         exact⟨i+1,h3,by omega,⟨by rw [e];rfl,rfl⟩,by rw [e];rfl,by rw [e];rfl,by rw [e];rfl⟩
       | some u=>
         simp only [ho,Option.isSome_some,Option.getD_some]
         rw [ho] at hI
         refine pw ?_
         refine .c (zi6 ((qA k[j].items).lo,k[j].vec[i].rep,(qA (kn k[j].vec[i])).lo) u) ?_
         refine .i ?_ ?_<;>intro h5<;>(try simp only [zb] at h5)<;>first | refine pw ?_ | exact pd
         ·have e:kt (xm k j) (qA k[j].items).lo k[j].vec (i+1)=some ((qA k[j].items).lo,k[j].vec[i].rep,(qA (kn k[j].vec[i])).lo):=by rw [hI];simp only [List.foldl_cons,List.foldl_nil,Vq,if_pos h5]
          exact⟨i+1,h3,by omega,⟨by rw [e];rfl,rfl⟩,by rw [e];rfl,by rw [e];rfl,by rw [e];rfl⟩
         ·have e:kt (xm k j) (qA k[j].items).lo k[j].vec (i+1)=some u:=by rw [hI];simp only [List.foldl_cons,List.foldl_nil,Vq];rw [if_neg (by omega)]
          exact⟨i+1,h3,by omega,⟨by rw [e];rfl,rfl⟩,by rw [e];rfl,by rw [e];rfl,by rw [e];rfl⟩
      ·rw [zel (by omega)] at hI
       have e:kt (xm k j) (qA k[j].items).lo k[j].vec (i+1)=kt (xm k j) (qA k[j].items).lo k[j].vec i:=hI
       exact⟨i+1,h3,by omega,⟨by rw [e],rfl⟩,by rw [e],by rw [e],by rw [e]⟩
     ·have e:xm k (j+1)=kt (xm k j) (qA k[j].items).lo k[j].vec i:=by
       rw [hs];unfold kt;rw [List.take_of_length_le (by omega)]
      exact⟨j+1,h,by omega,⟨by rw [e],rfl⟩,by rw [e],by rw [e],by rw [e]⟩
  ·have e:xm k j=kY k:=by unfold xm kY;rw [List.take_of_length_le (by omega)]
   rw [e]
end Go.Proofs.YtjimggclhlnfbaaGreatDoor
namespace Go.Proofs.YtjimggclhlnfbaaGreatDoor
open Go.RowKit
attribute [-go_sem] z7 zae zaf Vr
theorem zeG (x y:Nat) (h:x+y<=80000) (w:World):(binOp .add 3 (.int .i64 (x:Nat)) (.int .i64 (y:Nat))).run Tryz.prog w=.ok (.int .i64 ((x+y:Nat):Int)) w:=by
 go_simp
 rw [IntKind.wrap_i64]
 omega
theorem Vk {B:Nat->List Nat} {R:List Nat} {n:Nat} (f:Bool->Bool->Bool) (hf:f false false=false) (op:FuncId) (a b:List Fg) (ha:Kn B R n a) (hb:Kn B R n b) (ok:OkX B R) (hn:n<=40000)
 (hop:∀ x,Cn Tryz.prog op [vp (qc a x),vp (qc b x)] (vp (ks f (qc a x) (qc b x)))):Cn Tryz.prog 75 [kp a,kp b,.fn (.func op) [] []] (.tup [kp (vh f a b),.v .nilIface]):=by
 refine yZ rfl (enters_of Tryz.func75 (by kernel_rfl) rfl) fun D w vs hG hD hsz hd=>?_
 have d0:Dat D w (vs.getD 0 undef) (kp a):=hd 0 _ rfl
 have d1:Dat D w (vs.getD 1 undef) (kp b):=hd 1 _ rfl
 have d2:Dat D w (vs.getD 2 undef) (.fn (.func op) [] []):=hd 2 _ rfl
 obtain⟨v0,hv0⟩:∃ v0,v0=vs.getD 0 undef:=⟨_,rfl⟩
 obtain⟨v1,hv1⟩:∃ v1,v1=vs.getD 1 undef:=⟨_,rfl⟩
 rw [<-hv0] at d0
 rw [<-hv1] at d1
 have e2:vs.getD 2 undef=.func (.func op) #[] #[]:=by
  generalize vs.getD 2 undef=x at d2
  cases d2 with
  | fn f va vb fs cs h1 h2 h3 h4=>
    obtain rfl:va=#[]:=Array.eq_empty_of_size_eq_zero (by simpa using h1)
    obtain rfl:vb=#[]:=Array.eq_empty_of_size_eq_zero (by simpa using h2)
    rfl
 obtain rfl:vs=#[v0,v1,.func (.func op) #[] #[]]:=by
  obtain⟨l⟩:=vs
  match l,hsz with
  | [p,q,s],_=>
    simp at hv0 hv1 e2
    rw [hv0,hv1,e2]
 clear d2 e2 hv0 hv1 hsz hd
 obtain⟨aa,ca,fa,rfl,hla,rowa,da⟩:=kX d0 hD
 obtain⟨ab,cb,fb,rfl,hlb,rowb,db⟩:=kX d1 hD
 have hal:=ha.l
 have hbl:=hb.l
 have hca:=rowa.1
 have hcb:=rowb.1
 have hcam:=rowa.2.1
 have hcbm:=rowb.2.1
 unfold maxLen at hcam hcbm
 rw [hla] at hca
 rw [hlb] at hcb
 have HCA:=Lib.hid (fun W (hW:Below w.heap.size w W)=>KH ha.r (ha.z (by omega)) d0 hD hG hW)
 have HCB:=Lib.hid (fun W (hW:Below w.heap.size w W)=>KH hb.r (hb.z (by omega)) d1 hD hG hW)
 have HFA:=Lib.hid (fun W (hW:Below w.heap.size w W)=>Zn (W:=W) rowa fun b o x h hx=>(World.cell?_of_block (a:=⟨b,o,none⟩) (hW.block b h)).trans hx)
 have HFB:=Lib.hid (fun W (hW:Below w.heap.size w W)=>Zn (W:=W) rowb fun b o x h hx=>(World.cell?_of_block (a:=⟨b,o,none⟩) (hW.block b h)).trans hx)
 have HD0:=Lib.hid d0
 have HD1:=Lib.hid d1
 have HDA:=Lib.hid da
 have HDB:=Lib.hid db
 have HGG:=Lib.hid hG
 have HDD:=Lib.hid hD
 have HA:=Lib.hid ha
 have HB:=Lib.hid hb
 have HLA:=Lib.hid hla
 have HLB:=Lib.hid hlb
 have HOP:=Lib.hid hop
 obtain⟨i0,hi0,hz0,hz1,hz2⟩:=info_parts Z9
 have hla2:=jf fa
 have hlb2:=jf fb
 rw [hla] at hla2
 rw [hlb] at hlb2
 clear d0 d1 da db rowa rowb hG hD ha hb
 have hadd:=zeG a.length b.length (by omega)
 have HI:=Lib.hid (And.intro hi0 (And.intro hz0 (And.intro hz1 hz2)))
 have HL2:=Lib.hid (And.intro hla2 hlb2)
 clear hi0 hz0 hz1 hz2 hla2 hlb2 hop
 have tokA:True:=trivial
 have tokB:True:=trivial
 have tokC:True:=trivial
 have tokD:True:=trivial
 have tokE:True:=trivial
 go_enter_defers Tryz.func75,Tryz.ntmps75
 go_upto_region 6 with(first
  | (go_at_call 59;have _t:=tokA;refine(HCA.out _ ((Below.refl _ _).alloc (Nat.le_refl _) _)).mono ?_;rintro e w1 ⟨rfl,hb1⟩
     have hx1:Boxed w1 w.heap.size 44 .nilIface:=(hb1.block _ (by simp)).trans (World.alloc_heap_new w _)
     have HX1:=Lib.hid hx1
     have HB1:=Lib.hid (((Below.refl _ w).alloc (Nat.le_refl _) _).trans (hb1.mono (by simp)))
     have hs1:=hx1.lt
     clear hb1 hx1 tokA)
  | (go_at_call 83;refine(zdp _ _).mono ?_;rintro e w' ⟨⟨u,rfl⟩,rfl⟩)
  | (go_at_call 59;have _t:=tokB;refine(HCB.out _ HB1.out).mono ?_;rintro e w2 ⟨rfl,hb2⟩
     have hx2:Boxed w2 w.heap.size 44 .nilIface:=(hb2.block _ HX1.out.lt).trans HX1.out
     have HX2:=Lib.hid hx2
     have HB2:=Lib.hid (HB1.out.trans (hb2.mono HB1.out.size))
     have hs2:=hx2.lt
     clear hb2 hx2 tokB)
  | (at_make;have _t:=tokC;refine wpList_make_own _ rfl _ _ 23 rfl (w.heap.size+1) 34 i0 _ 2 Tryz.underlying23 HI.out.1 HI.out.2.1 HI.out.2.2.1 .i64 .i64 _ (a.length+b.length) rfl rfl (by simp) (by rw [HI.out.2.2.2];omega) (by unfold maxLen;omega) (by omega) ?_
     intro w3 ho3 hg3
     have HO3:=Lib.hid ho3
     have HB3:=Lib.hid (HB2.out.grown hg3 HB2.out.size fun j hj=>by cases hj)
     have HX3:=Lib.hid (HX2.out.kept hg3 (by simp))
     clear ho3 hg3 tokC
     dsimp only [Act.put])
  | (at_builtin;have _t:=tokD;refine Jb _ _ 23 rfl rfl Tryz.underlying23 (w.heap.size+1) _ 0 [] rfl HO3.out _ a.length ca (qB fa) rfl HL2.out.1 (by rcases HFA.out _ HB3.out with h | h;exact .inl ⟨by have:=h.1;omega,h.2⟩;exact .inr h) (jg fa) (by omega) (by have:=HO3.out.lt;have:=HB3.out.size;have:=HX3.out.lt;omega) ?_
     intro v4 w4 ho4 hg4 hv4
     have HO4:=Lib.hid ho4
     have HB4:=Lib.hid (HB3.out.grown hg4 HB3.out.size fun j hj=>by have:=(HO3.out.lt j hj).1;omega)
     have HX4:=Lib.hid (HX3.out.kept hg4 fun e=>by have:=(HO3.out.lt _ e.symm).1;omega)
     clear ho4 hg4 hv4 tokD
     dsimp only [Act.put])
  | (at_builtin;have _t:=tokE;refine Jb _ _ 23 rfl rfl Tryz.underlying23 (w.heap.size+1) _ (0+a.length) ([]++qB fa) rfl HO4.out _ b.length cb (qB fb) rfl HL2.out.2 (by rcases HFB.out _ HB4.out with h | h;exact .inl ⟨by have:=h.1;omega,h.2⟩;exact .inr h) (jg fb) (by omega) (by have:=HX4.out.lt;omega) ?_
     intro v5 w5 ho5 hg5 hv5
     have HO5:=Lib.hid ho5
     have HB5:=Lib.hid (HB4.out.grown hg5 HB4.out.size fun j hj=>by have:=(HO4.out.lt j hj).1;omega)
     have HX5:=Lib.hid (HX4.out.kept hg5 fun e=>by have:=(HO4.out.lt _ e.symm).1;omega)
     clear ho5 hg5 hv5 tokE
     dsimp only [Act.put])
  | go_in)
 have hog:=OutG.two (C:=D) (mb:=w.heap.size) (base:=w.heap.size+1) (a:=a) (b:=b) HLA.out HLB.out HO5.out HDD.out HB5.out (by omega) HDA.out HDB.out
 have hdab:=hog.dat (by omega)
 have hs5:=HX5.out.lt
 have hcell:∀ b o x,D b o->w.cell? ⟨b,o,none⟩=some x->w5.cell? ⟨b,o,none⟩=some x:=fun b o x h hx=>(World.cell?_of_block (a:=⟨b,o,none⟩) (HB5.out.block b (HDD.out b o h))).trans hx
 have hB5:=HB5.out
 have hnext:=‹∀(a:Act) (w:World),Code.wp _ _ _ a w->_›
 apply wp_region_lit
 unfold wpList
 rw [if_pos (by simp [Region.wanted])]
 refine .inl ?_
 unfold Oper.wp execOp
 simp only [Sem.run_pure]
 refine hnext _ _ ?_
 refine wp_mono (zih (nt:=Tryz.f75.ntmps) (D:=DL D w.heap.size w5) (by kernel_rfl) HGG.out _ ⟨hB5.os,hB5.tape,hB5.output,hB5.size,fun k hk _=>hB5.block k hk,fun b o h=>.inl h,hcell,fun b o h=>h.imp id fun h=>.inl (Nat.le_of_lt h.1),HDD.out⟩ (fun b o h=>h.elim (fun h=>by have:=HDD.out b o h;omega) And.right) (Nat.le_refl _) HX5.out (.v _) rfl (fun o h=>h.elim (fun h=>by have:=HDD.out _ o h;omega) fun h=>by omega) rfl [(0,kp a),(1,kp b),(2,.fn (.func op) [] []),(7,.bx 0 0),(8,kp (a++b)),(9,.sl [] .z)] (fun t=>?_) (fun t=>?_) rfl (Q:=jG [.t 6,.c 7 false 1] (.tup [kp (vh f a b),.v .nilIface])) ?_) ?_
 ·rcases t with _ | _ | _ | _ | _ | _ | _ | _ | _ | _ | t
  ·exact .inr (HD0.out.mono (fun _ _ h=>.inl h) hcell)
  ·exact .inr (HD1.out.mono (fun _ _ h=>.inl h) hcell)
  ·exact .inr (.fn _ #[] #[] [] [] rfl rfl (fun _ _ h=>by simp at h) (fun _ _ h=>by simp at h))
  ·exact .inr (.und _)
  ·exact .inr (.und _)
  ·exact .inr (.und _)
  ·exact .inr (.und _)
  ·exact .inl ⟨rfl,rfl⟩
  ·exact .inr hdab
  ·exact .inr (.sl none 0 0 [] .z 0 0 (fun _=>undef) (Nat.le_refl _) (fun _=>rfl) (Nat.zero_le _) (by simp) (fun i e h=>by simp at h) (fun j h=>by simp at h) (fun i e j p h=>by simp at h))
  ·exact .inr (.und _)
 ·rcases t with _ | _ | _ | _ | _ | _ | _ | _ | _ | _ | t<;>rfl
 ·exact zjO f hf op a b HA.out HB.out ok hn HOP.out
 ·intro e a1 w1 hQ
  obtain⟨he,hdf,v,D',hrun,hfr,hDlt,hdat⟩:=zfM (P:=Tryz.prog) (fn:=Tryz.f75) (by kernel_rfl) hQ
  have hbel:Below w.heap.size w w1:=⟨hfr.os,hfr.tape,hfr.output,hfr.size,fun k hk=>hfr.block k hk fun h=>h⟩
  have hfin:Dat (fun b o=>D b o\/(w.heap.size<=b/\b<w1.heap.size)) w1 v (.tup [kp (vh f a b),.v .nilIface]):=hdat.mono (fun b o h=>by
   rcases hfr.new b o h with h1 | h1 | h1
   ·exact .inl h1
   ·exact .inr ⟨h1,hDlt b o h⟩
   ·exact h1.elim) (fun _ _ _ _ h=>h)
  obtain⟨tm,df⟩:=a1
  simp only [Act.put] at hdf
  subst hdf
  have hend:Leaves Tryz.prog Tryz.f75 tm (fun e w'=>∃ v,e=.returned v/\Below w.heap.size w w'/\Dat (fun b o=>D b o\/(w.heap.size<=b/\b<w'.heap.size)) w' v (.tup [kp (vh f a b),.v .nilIface])) [{ target:=.fn (.func 82) #[],args:=#[.pointer (some ⟨w.heap.size,0,none⟩)] }] .returning w1:=by
   refine leaves_cons (f := 82) (args:=#[.pointer (some ⟨w.heap.size,0,none⟩)]) (by simp) (by simp [go_sem]) ?_
   refine(JI ⟨w.heap.size,0,none⟩ _).mono ?_
   rintro e u' w'' ⟨rfl,rfl,rfl⟩
   exact⟨v,hrun,v,rfl,hbel,hfin⟩
  rcases he with rfl | rfl<;>exact hend
end Go.Proofs.YtjimggclhlnfbaaGreatDoor
namespace Go.Proofs.YtjimggclhlnfbaaGreatDoor
open Go.RowKit
theorem zkw (a b:List En) (ha:SmV a) (hb:SmV b):Cn Tryz.prog 77 [vp a,vp b] (vp (ks y5 a b)):=by
 refine zt Tryz.func77 2 ?_
 refine pw ?_
 exact .d (zfC a b ha hb)
theorem zkv (a b:List En) (ha:SmV a) (hb:SmV b):Cn Tryz.prog 86 [vp a,vp b] (vp (ks zm a b)):=by
 refine zt Tryz.func86 2 ?_
 refine pw ?_
 exact .d (zdb a b ha hb)
theorem JP {C:Nat->List Nat} {R:List Nat} {n:Nat} (a b:List Fg) (ha:Kn C R n a) (hb:Kn C R n b) (ok:OkX C R) (hn:n<=40000):Cn Tryz.prog 26 [kp a,kp b] (.tup [kp (vh y5 a b),.v .nilIface]):=by
 refine zt Tryz.func26 2 ?_
 refine pw ?_
 exact .d (Vk y5 rfl 77 a b ha hb ok hn (fun x=>zkw _ _ (ha.at ok x) (hb.at ok x)))
theorem vD {C:Nat->List Nat} {R:List Nat} {n:Nat} (a b:List Fg) (ha:Kn C R n a) (hb:Kn C R n b) (ok:OkX C R) (hn:n<=40000):Cn Tryz.prog 31 [kp a,kp b] (.tup [kp (vh zm a b),.v .nilIface]):=by
 refine zt Tryz.func31 2 ?_
 refine pw ?_
 exact .d (Vk zm rfl 86 a b ha hb ok hn (fun x=>zkv _ _ (ha.at ok x) (hb.at ok x)))
theorem Zw {C:Nat->List Nat} {R:List Nat} {n:Nat} (a b:List Fg) (ha:Kn C R n a) (hb:Kn C R n b) (ok:OkX C R) (hn:n<=40000):Cn Tryz.prog 34 [kp a,kp b] (.tup [.v (.bool (decide (vh zm a b=[]))),.v .nilIface]):=by
 refine zt Tryz.func34 2 ?_
 refine pw ?_
 exact .d (vD a b ha hb ok hn)
theorem jE {C:Nat->List Nat} {R:List Nat} {n:Nat} (a b:List Fg) (ha:Kn C R n a) (hb:Kn C R n b) (ok:OkX C R) (hn:n<=40000):Cn Tryz.prog 35 [kp a,kp b] (.tup [.v (.bool (decide (vh y5 a b=[]))),.v .nilIface]):=by
 refine zt Tryz.func35 2 ?_
 refine pw ?_
 exact .d (JP a b ha hb ok hn)
theorem Zv {C:Nat->List Nat} {R:List Nat} {n:Nat} (a b:List Fg) (ha:Kn C R n a) (hb:Kn C R n b) (ok:OkX C R) (hn:n<=40000):Cn Tryz.prog 36 [kp a,kp b] (.tup [.v (.int .i64 (zbC a b:Nat)),.v .nilIface]):=by
 unfold zbC
 refine zt Tryz.func36 2 ?_
 refine pw ?_
 refine .c (vD a b ha hb ok hn) ?_
 refine .c (vD b a hb ha ok hn) ?_
 by_cases h1:vh zm a b=[]
 ·by_cases h2:vh zm b a=[]
  ·simp only [h1,h2,List.length_nil,if_true]
   exact pd
  ·have q2:decide (0<(vh zm b a).length)=true:=decide_eq_true (List.length_pos_iff.2 h2)
   simp only [h1,h2,List.length_nil,if_true,if_false]
   try simp (maxSteps:=2000000) (disch:=omega) only [go_sem,seval,q2]
   repeat ((with_reducible refine And.intro ?_ ?_);focus exact yI)
 ·have q1:decide (0<(vh zm a b).length)=true:=decide_eq_true (List.length_pos_iff.2 h1)
  by_cases h2:vh zm b a=[]
  ·simp only [h1,h2,List.length_nil,if_true,if_false]
   try simp (maxSteps:=2000000) (disch:=omega) only [go_sem,seval,q1]
   repeat ((with_reducible refine And.intro ?_ ?_);focus exact yI)
  ·have q2:decide (0<(vh zm b a).length)=true:=decide_eq_true (List.length_pos_iff.2 h2)
   simp only [h1,h2,if_false]
   try simp (maxSteps:=2000000) (disch:=omega) only [go_sem,seval,q1,q2]
   repeat ((with_reducible refine And.intro ?_ ?_);focus exact yI)
theorem zds {C:Nat->List Nat} {R:List Nat} {n:Nat} (k:List Fg) (h:Kn C R n k) (ok:OkX C R) (hn:n<=40000):Cn Tryz.prog 27 [kp k] (kp (zbx k)):=by
 show Cn Tryz.prog 27 [kp k] (kp (zL (jq k)))
 refine zt Tryz.func27 1 ?_
 refine pw ?_
 refine .c (ziJ k (h.ok12 ok (by omega))) ?_
 exact .d (zfn (jq k) (h.refine ok) ok (by omega))
def Y1 (a b:List Fg):Bool:=vx a && vx b && decide ((ckK a).1=0) && decide ((ckK b).1=0)
theorem zbI (a b:List Fg) (ha:BdK a) (hb:BdK b):Cn Tryz.prog 54 [kp a,kp b] (.v (.bool (vx a && vx b))):=by
 refine zt Tryz.func54 2 ?_
 refine pw ?_
 refine .c (zc8 a ha) ?_
 refine .i ?_ ?_<;>intro h<;>(try simp only [zb] at h)<;>first | refine pw ?_ | exact pd
 ·rw [h]
  exact .d (zc8 b hb)
 ·simp [h]
theorem XV (a b:List Fg) (ha:BdK a) (hb:BdK b):Cn Tryz.prog 32 [kp a,kp b] (.v (.bool (Y1 a b))):=by
 unfold Y1
 refine zt Tryz.func32 2 ?_
 refine pw ?_
 refine .c (zbI a b ha hb) ?_
 refine .i ?_ ?_<;>intro h<;>(try simp only [zb] at h)<;>first | refine pw ?_ | exact pd
 ·refine .c (Vm a ha (zcS h.1)) ?_
  refine .i ?_ ?_<;>intro h2<;>(try simp only [zb] at h2)<;>first | refine pw ?_ | exact pd
  ·refine .c (Vm b hb (zcS h.2)) ?_
   simp [h,h2]
  ·simp [h,h2]
 ·rcases h with h | h<;>simp [h]
structure Cr15 (a b:List Fg):Prop where
 ra:RightK a
 rb:RightK b
 ka:Kn (CKL [a,b]) (RKL [a,b]) 240 a
 kb:Kn (CKL [a,b]) (RKL [a,b]) 240 b
 ok:OkX (CKL [a,b]) (RKL [a,b])
theorem Jy {a b:List Fg} (ha:BdK a) (hb:BdK b) (h:Y1 a b=true):Cr15 a b:=by
 unfold Y1 at h
 simp only [Bool.and_eq_true,decide_eq_true_eq] at h
 obtain⟨⟨⟨h1,h2⟩,h3⟩,h4⟩:=h
 have ra:=(ZN ha).1 h3
 have rb:=(ZN hb).1 h4
 refine⟨ra,rb,Kn.all (by simp) h1 ra,Kn.all (by simp) h2 rb,zam (by simp) fun k hk=>?_⟩
 simp at hk
 rcases hk with rfl | rfl
 ·exact⟨h1,ra⟩
 ·exact⟨h2,rb⟩
def Jf:List Fg:=[⟨[⟨4,5⟩],[⟨1,5,[⟨0,2⟩]⟩]⟩]
theorem zgS:vx Jf=true:=by decide
theorem r15:RightK Jf:=by simp [Jf,RightK,ZS,RightV,zO,zw,Nrm,NF]
theorem znB:zO ⟨1,5,[⟨0,2⟩]⟩:=by simp [zO,zw,Nrm,NF]
theorem zky:kn ⟨1,5,[⟨0,2⟩]⟩=[⟨3,5⟩]:=Nrm.unique (qT znB) (by simp [Nrm,NF,zw]) fun x hx=>by
 unfold kn
 rw [qj (qG (by decide) (by rw [zw];decide)) (by simp [Nrm,NF,zw]) hx]
 simp only [zm,zz,mem,List.any_nil,Bool.or_false]
 rw [Bool.eq_iff_iff]
 simp
 omega
theorem zfD:kY Jf=some (4,1,3):=by simp [kY,Jf,V3,XE,zky,Vq]
theorem zkj:hasK Jf 4 1 3=true:=by
 rw [zfo r15]
 exact⟨_,by simp [Jf];rfl,by simp [mem],_,by simp;rfl,rfl,by rw [zky];simp [mem]⟩
theorem ziZ:vh zm [] Jf=[]:=(V0 (fun f h=>by cases h) r15).2 fun i r c _ _ h=>by cases h
theorem zeg:vh zm Jf []≠[]:=fun h=>by
 have:=(V0 r15 (fun f h=>by cases h)).1 h 4 1 3 (by rw [zw];decide) (by rw [zw];decide) zkj
 cases this
theorem zjN:vh y5 Jf []=[]:=(KP rfl r15 (fun f h=>by cases h)).2 fun i r c _ _=>by rw [zcY];simp [y5]
theorem ZZ:Cr15 Jf []:=⟨r15,fun f h=>(by cases h),Kn.all (by simp) zgS r15,Kn.all (by simp) (by decide) fun f h=>(by cases h),zam (by simp) fun k hk=>by
 simp at hk
 rcases hk with rfl | rfl
 ·exact⟨zgS,r15⟩
 ·exact⟨by decide,fun f h=>by cases h⟩⟩
theorem Yf:Cn Tryz.prog 33 [] (.v (.bool true)):=by
 have a1:=zfE Jf (ZZ.ka.ok12 ZZ.ok (by omega))
 have a2:=Zv [] Jf ZZ.kb ZZ.ka ZZ.ok (by omega)
 have a3:=Zw Jf [] ZZ.ka ZZ.kb ZZ.ok (by omega)
 have a4:=jE Jf [] ZZ.ka ZZ.kb ZZ.ok (by omega)
 rw [zfD] at a1
 rw [show zbC [] Jf=1 by unfold zbC;rw [if_pos ziZ,if_neg zeg]] at a2
 rw [decide_eq_false zeg] at a3
 rw [decide_eq_true zjN] at a4
 refine zt Tryz.func33 0 ?_
 refine pw ?_
 (first | refine .c (a1) ?_ | refine .o (a1) ?_)
 (first | refine .c (a2) ?_ | refine .o (a2) ?_)
 (first | refine .c (a3) ?_ | refine .o (a3) ?_)
 (first | exact .d (a4) | exact .q (a4))
theorem Kn.up {C:Nat->List Nat} {R:List Nat} {n m:Nat} {k:List Fg} (h:Kn C R n k) (hn:n<=m):Kn C R m k:=h.mono (fun _ _ h=>h) (fun _ h=>h) hn
theorem zeH (a b:List Fg) (ha:BdK a) (hb:BdK b):Cn Tryz.prog 11 [kp a,kp b] (.v (.bool true)):=by
 refine zt Tryz.func11 2 ?_
 refine pw ?_
 refine .c (XV a b ha hb) ?_
 refine .i ?_ ?_<;>intro h<;>(try simp only [zb] at h)<;>first | refine pw ?_ | exact pd
 ·exact .d (Yf)
 ·have hc:=Jy ha hb h
  have ka:=hc.ka.up (show 240<=481 by omega)
  have kca:=hc.ka.canon hc.ok
  have s1:=Zv a b hc.ka hc.kb hc.ok (by omega)
  have s2:=Zv a (zbx a) ka kca hc.ok (by omega)
  have s3:=zfq (zbx a) (zbx b) (kca.z (by omega))
  rw [ziK hc.ra] at s2
  have hrc:=zeE hc.ra hc.rb
  by_cases hs:zbx a=zbx b
  ·rw [hrc.2 hs] at s1
   rw [decide_eq_true hs] at s3
   (first | refine .c (s1) ?_ | refine .o (s1) ?_)
   refine .c (zds a hc.ka hc.ok (by omega)) ?_
   refine .c (zds b hc.kb hc.ok (by omega)) ?_
   (first | refine .c (s2) ?_ | refine .o (s2) ?_)
   refine .c (Yf) ?_
   (first | exact .d (s3) | exact .q (s3))
  ·rw [decide_eq_false hs] at s3
   obtain⟨r,hr⟩:∃ r,r=zbC a b:=⟨_,rfl⟩
   rw [<-hr] at s1
   have h0:r≠0:=fun e=>hs (hrc.1 (by rw [<-hr,e]))
   (first | refine .c (s1) ?_ | refine .o (s1) ?_)
   refine .c (zds a hc.ka hc.ok (by omega)) ?_
   refine .c (zds b hc.kb hc.ok (by omega)) ?_
   (first | refine .c (s2) ?_ | refine .o (s2) ?_)
   refine .c (Yf) ?_
   (first | refine .c (s3) ?_ | refine .o (s3) ?_)
   simp [h0]
   exact pd
end Go.Proofs.YtjimggclhlnfbaaGreatDoor
