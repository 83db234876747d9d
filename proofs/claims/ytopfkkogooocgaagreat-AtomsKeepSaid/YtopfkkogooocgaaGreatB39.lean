import Derived.Test.YtopfkkogooocgaaGreatB22
import Derived.Test.YtopfkkogooocgaaGreatB23
import Derived.Test.YtopfkkogooocgaaGreatB24
import Derived.Test.YtopfkkogooocgaaGreatB38
set_option maxHeartbeats 16000000
set_option linter.unusedVariables false
set_option linter.unusedSimpArgs false
set_option maxRecDepth 100000
namespace Go.Proofs.YtopfkkogooocgaaGreat
open Go.RowKit
def cp2 (a b:Nat):PV:=.agg [.v (.int .u64 a),.v (.int .u64 b)]
def cw (n:Nat):PV:=cp2 (n / zk) (n % zk)
attribute [go_sem] cp2 cw
theorem RightV.take {v:List En} (h:RightV v) (k:Nat):RightV (v.take k):=⟨fun e he=>h.1 e (List.mem_of_mem_take he),h.2.sublist (List.take_sublist _ _)⟩
def vps (vs:List (List En)):PV:=.sl (vs.map fun v=>[vp v]) .sh
attribute [go_sem] vps
theorem zo3 {x:List Iv} (hx:Nrm x):qy zm x []=x:=vK hx trivial hx fun t _=>by simp [zm]
theorem kn0 (r m:Nat) (hm:m<zk):kn ⟨r,m,[]⟩=[⟨0,m⟩]:=zo3 (qG (Nat.zero_le _) hm)
def u10:List En:=[⟨1,4,[]⟩,⟨2,3,[]⟩]
theorem SmV.g {v:List En} (h:SmV v):v.length<=1152921504606846976/\∀ e ∈ v,e.holes.length<=1152921504606846976:=⟨by have:=h.2.1;omega,fun e he=>by have:=h.2.2 e he;omega⟩
theorem WV.smv {C:Nat->List Nat} {R:List Nat} {v:List En} (h:WV C R v) (ok:OkC C R):SmV v:=(h.bv ok.1 ok.2).mono (Nat.le_refl _) (by omega)
theorem zfh {k:List Fg} (h:vx k=true) (hr:RightK k) {f:Fg} (hf:f ∈ k):SmV f.vec:=by
 have:=vw.1 ((Z3.1 h).1 f hf).2
 exact⟨(hr f hf).2,by omega,fun e he=>by have:=this.1 e he;omega⟩
theorem kH {D:Nat->Nat->Prop} {w:World} {x:Value} {es:List (List PV)} {o:Ow} (h:Dat D w x (.sl es o)):∃ s:Sv,x=sv s/\s.2.1=es.length:=by
 obtain⟨ad,cap,sz,b,off,f,e1,_⟩:=(Rel.dat (ρ:=fun _=>0) (nb:=0) h).inv_sl
 exact⟨(ad,es.length,cap),e1,rfl⟩
theorem kX {D:Nat->Nat->Prop} {n0:Nat} {w:World} {v:Value} {k:List Fg} (h:Dat D w v (kp k)) (hD:∀ b o,D b o->b<n0) :
 ∃ a cap fs,v=.slice a k.length cap/\∃ hl:fs.length=k.length,zeF n0 w a cap fs/\∀ i (h:i<fs.length),Dat D w (sv fs[i].1) (rg (k[i]'(hl ▸ h)).items)/\Dat D w (sv fs[i].2) (vp (k[i]'(hl ▸ h)).vec):=by
 unfold kp at h
 generalize he:k.map fc=es at h
 cases h with
 | sl a cap sz es o b off u hc hz hm ha hsz hd hx=>
   have hl:es.length=k.length:=by rw [<-he];simp
   have g:∀ i (h:i<k.length),es[i]? = some (fc k[i]):=fun i h=>by rw [<-he];exact xo h
   have each:∀ i,i<k.length->∃ f:Fv,∀ h:i<k.length,(sz=2/\u (i * 2)=sv f.1/\u (i * 2+1)=sv f.2)/\Dat D w (sv f.1) (rg k[i].items)/\Dat D w (sv f.2) (vp k[i].vec):=fun i hi=>by
    obtain rfl:2=sz:=hsz i _ (g i hi)
    have d0:Dat D w (u (i * 2+0)) (rg k[i].items):=hx i _ 0 _ (g i hi) rfl
    have d1:Dat D w (u (i * 2+1)) (vp k[i].vec):=hx i _ 1 _ (g i hi) rfl
    obtain⟨s0,e0,_⟩:=kH d0
    obtain⟨s1,e1,_⟩:=kH d1
    rw [e0] at d0
    rw [e1] at d1
    exact⟨(s0,s1),fun _=>⟨⟨rfl,e0,e1⟩,d0,d1⟩⟩
   obtain⟨F,hF⟩:=Go.Deep.choose_lt each
   refine⟨a,cap,(List.range k.length).map F,by rw [hl],by simp,⟨by simp;omega,hm,fun hne=>?_⟩,fun i hi=>?_⟩
   ·have hpos:0<k.length:=by
     rcases Nat.eq_zero_or_pos k.length with h0 | h0
     ·rw [h0] at hne;simp at hne
     ·exact h0
    obtain⟨⟨rfl,_⟩,_⟩:=hF 0 hpos hpos
    have hes:es≠[]:=by intro e;subst e;simp at hl;omega
    refine⟨b,off,ha hes,hD _ _ (hd 0 (by omega)).1,fun i hi=>?_⟩
    have hi':i<k.length:=by simpa using hi
    obtain⟨⟨_,e0,e1⟩,_⟩:=hF i hi' hi'
    have c0:=(hd (i * 2) (by omega)).2.1
    have c1:=(hd (i * 2+1) (by omega)).2.1
    rw [e0] at c0
    rw [e1] at c1
    simp only [List.getElem_map,List.getElem_range]
    exact⟨c0,c1⟩
   ·have hi':i<k.length:=by simpa using hi
    simp only [List.getElem_map,List.getElem_range]
    exact(hF i hi' hi').2
theorem zez {hit:Nat->Bool} {p:Nat × Fv}:∀ {l:List Fv} {n:Nat},p ∈ wl hit n l->∃ h:p.1 - n<l.length,n<=p.1/\p.2=l[p.1 - n]/\hit p.1=true
 | [],n,h=>by cases h
 | f::l,n,h=>by
   unfold wl at h
   have rst:p ∈ wl hit (n+1) l->∃ h:p.1 - n<(f::l).length,n<=p.1/\p.2=(f::l)[p.1 - n]/\hit p.1=true:=fun h=>by
    obtain⟨h1,h2,h3,h4⟩:=zez h
    refine⟨by simp;omega,by omega,?_,h4⟩
    rw [h3]
    have e:p.1 - n=(p.1 - (n+1))+1:=by omega
    simp only [e,List.getElem_cons_succ]
   split at h
   ·rename_i hh
    rcases List.mem_cons.1 h with rfl | h
    ·exact⟨by simp,Nat.le_refl _,by simp,hh⟩
    ·exact rst h
   ·exact rst h
theorem Yp {α:Type} {k:List Fg} {fs:List Fv} (hl:fs.length=k.length) (item:Nat) (step:α->Nat->Fg->α) (a0:α) :
 (wl (fun j=>mem (k.getD j default).items item) 0 fs).foldl (fun a p=>step a p.1 (k.getD p.1 default)) a0=(qd item 0 k).foldl (fun a p=>step a p.1 p.2) a0:=by
 have key:∀ j,j<=k.length->(wl (fun j=>mem (k.getD j default).items item) 0 (fs.take j)).foldl (fun a p=>step a p.1 (k.getD p.1 default)) a0=(qd item 0 (k.take j)).foldl (fun a p=>step a p.1 p.2) a0:=by
  intro j
  induction j with
  | zero=>intro _;rfl
  | succ j ih=>
    intro hj
    rw [XF (by omega),j9 item (by omega),List.foldl_append,List.foldl_append,ih (by omega)]
    have e:k.getD j default=k[j]:=by simp [List.getD_eq_getElem?_getD,List.getElem?_eq_getElem (show j<k.length by omega)]
    simp only [e]
    split
    ·show step _ j (k.getD j default)=step _ j k[j]
     rw [e]
    ·rfl
 have:=key k.length (Nat.le_refl _)
 rwa [<-hl,List.take_length,hl,List.take_length] at this
def V8 (k:List Fg) (i:Nat):PV:=.fn (.func 56) [] [.cp [kp k] 0,.cp [.v (.int .u64 i)] 0]
attribute [go_sem] V8
theorem zfB (k:List Fg) (i:Nat):Cn Tryz.prog 35 [kp k,.v (.int .u64 i)] (V8 k i):=by
 refine zt Tryz.func35 2 ?_
 exact pd
theorem zjy (v:List En) (i:Nat) (f:Fg) (hv:SmV v) (hf:SmV f.vec):Cn Tryz.prog 36 [vp v,.v (.int .i64 i),fp f] (vp (ks zn v f.vec)):=by
 refine zt Tryz.func36 3 ?_
 refine pw ?_
 exact .d (zdc v f.vec hv hf)
end Go.Proofs.YtopfkkogooocgaaGreat
namespace Go.Proofs.YtopfkkogooocgaaGreat
open Go.RowKit
attribute [-go_sem] z7
theorem zrs (ad:Addr) (n c:Nat) (w:World):(binOp .eql 23 (.slice (some ad) n c) (.slice none 0 0)).run Tryz.prog w=.ok (.bool false) w:=by kernel_rfl
theorem zrr (n c:Nat) (w:World):(binOp .eql 23 (.slice none n c) (.slice none 0 0)).run Tryz.prog w=.ok (.bool true) w:=by kernel_rfl
theorem zry {D:Nat->Nat->Prop} {w:World} {x:Value} {es:List (List PV)} (d:Dat D w x (.sl es .sh)) (hs:∀ e ∈ es,e.length=2) (hl:es.length<=1073741824) :
 Calls Tryz.prog 18 #[x] w fun e w'=>∃ u xs,e=.returned u/\Below w.heap.size w w'/\w'.ownsRow w.heap.size 32 2 u es.length xs/\∀(i:Nat) (e:List PV) (j:Nat) (p:PV),es[i]? = some e->e[j]? = some p->∃ v,xs[i * 2+j]? = some v/\Dat D w v p:=by
 obtain⟨ad,cap,xs,rfl,_,_,h1,h2,h3,h4⟩:=dat_row d hs
 obtain⟨i0,hi0,hz0,hz1,hz2⟩:=info_parts Z9
 cases ad with
 | none=>
   obtain⟨e0,rfl⟩:es.length=0/\xs=[]:=by
    rcases h3 with h | ⟨b,off,e,_⟩
    ·exact h
    ·cases e
   have hq:=zrr es.length cap
   have H4:=Lib.hid h4
   have E0:=Lib.hid e0
   clear h1 h2 h3 h4 d hl hi0 hz0 hz1 hz2 e0
   go_enter Tryz.func18,Tryz.ntmps18
   go_wp2
   go_ret
   refine⟨_,[],rfl,Below.refl _ _,?_,H4.out⟩
   rw [E0.out]
   exact World.ownsRow_nil _ _ _ _
 | some ad=>
   have hq:=zrs ad es.length cap
   have hcell:∀(j:Nat) (u:Value),xs[j]? = some u->(w.alloc (.cells #[] 32)).cell? (ad.add j)=some u:=fun j u hu=>by
    rcases h3 with⟨_,e⟩ | ⟨b,off,e,h⟩
    ·rw [e] at hu;simp at hu
    ·cases e
     have hx:=(h j u hu).2
     rw [zh]
     exact(World.cell?_of_block (a:=⟨b,off+j,none⟩) (Below.heap_alloc _ _ _ (World.block_lt_of_cell? w _ hx))).trans hx
   have HN:=Lib.hid (World.alloc_heap_new w (.cells #[] 32 (0,0)))
   have HC:=Lib.hid hcell
   have H1:=Lib.hid h1
   have H2:=Lib.hid h2
   have H4:=Lib.hid h4
   have HI:=Lib.hid (And.intro hi0 (And.intro hz0 (And.intro hz1 hz2)))
   clear h1 h2 h3 h4 d hcell hi0 hz0 hz1 hz2
   go_enter Tryz.func18,Tryz.ntmps18
   go_wp2_with (at_builtin;refine zq6 _ _ 23 32 rfl rfl i0 _ 2 48 Tryz.underlying23 HI.out.1 HI.out.2.1 HI.out.2.2.1 HI.out.2.2.2 rfl (by decide) (by decide) w.heap.size _ 0 [] rfl (zrH (Nat.le_refl _) HN.out) _ es.length cap xs rfl H1.out (.inr ⟨_,rfl,HC.out⟩) H2.out (by omega) (by simp) ?_;intro v' w' ho hg hv)
   go_ret
   rw [Nat.zero_add] at ho
   refine⟨v',xs,rfl,?_,ho,H4.out⟩
   exact(((Below.refl _ w).alloc (Nat.le_refl _) _).grown hg (by simp) fun j hj=>by cases hj;exact Nat.le_refl _)
def VO (base:Nat) (w:World) (u:Value) (v:List En):Prop:=RwE base w u v (fun _ e hv=>OwnR base w hv e.holes)
theorem VO.keep {base:Nat} {S:Nat->Prop} {w w':World} {u:Value} {v:List En} (h:VO base w u v) (hk:Keep S w w') (hS:∀ g,base<=g->¬ S g):VO base w' u v:=by
 obtain⟨xs,h1,h2⟩:=h
 refine⟨xs,hk.ownsRow h1 fun g hg=>hS g ((h1.lt g hg).1),fun i hi=>?_⟩
 obtain⟨a,b,hv,c,d⟩:=h2 i hi
 exact⟨a,b,hv,c,d.keep hk hS⟩
theorem VO.mono {base base':Nat} {w:World} {u:Value} {v:List En} (h:VO base w u v) (hb:base'<=base):VO base' w u v:=by
 obtain⟨xs,h1,h2⟩:=h
 refine⟨xs,⟨h1.1,?_⟩,fun i hi=>?_⟩
 ·rcases h1.2 with hn | ⟨g,cap,cur,hv,hg,r⟩
  ·exact .inl hn
  ·exact .inr ⟨g,cap,cur,hv,Nat.le_trans hb hg,r⟩
 ·obtain⟨a,b,hv,c,d⟩:=h2 i hi
  exact⟨a,b,hv,c,d.mono hb⟩
theorem VO.shape {base:Nat} {w:World} {u:Value} {v:List En} (h:VO base w u v):∃ a c,u=.slice a v.length c:=by
 obtain⟨a,c,e,_⟩:=RwE.shape h
 exact⟨a,c,e⟩
def RwF (base:Nat) (w:World) (u:Value) (k:List Fg) (X:Nat->Fg->Value->Value->Prop):Prop:=
 ∃ xs,w.ownsRow base 32 2 u k.length xs/\∀ i (h:i<k.length),∃ ha hb,xs[i * 2]? = some ha/\xs[i * 2+1]? = some hb/\X i k[i] ha hb
theorem RwF.imp {base:Nat} {w:World} {u:Value} {k:List Fg} {X Y:Nat->Fg->Value->Value->Prop} (h:RwF base w u k X) (hi:∀ i f a b,i<k.length->X i f a b->Y i f a b):RwF base w u k Y:=by
 obtain⟨xs,h1,h2⟩:=h
 refine⟨xs,h1,fun i hi'=>?_⟩
 obtain⟨a,b,c,d,e⟩:=h2 i hi'
 exact⟨a,b,c,d,hi i _ a b hi' e⟩
theorem RwF.shape {base:Nat} {w:World} {u:Value} {k:List Fg} {X:Nat->Fg->Value->Value->Prop} (h:RwF base w u k X):∃ ad cap,u=.slice ad k.length cap/\k.length<=cap/\cap<=maxLen/\(k≠[]->∃ g cur,ad=some ⟨g,0,none⟩/\base<=g/\g<w.heap.size/\w.heap[g]? = some (.cells cur 32 (0,0))/\0<cap):=by
 obtain⟨xs,h1,_⟩:=h
 rcases h1.2 with⟨rfl,h0⟩ | ⟨g,cap,cur,rfl,hg,hc,hn,hm,_,_⟩
 ·have:k=[]:=List.length_eq_zero_iff.1 h0
  subst this
  exact⟨none,0,rfl,Nat.le_refl _,by decide,fun h=>absurd rfl h⟩
 ·refine⟨_,cap,rfl,hn,hm,fun hne=>⟨g,cur,rfl,hg,(Array.getElem?_eq_some_iff.1 hc).1,hc,?_⟩⟩
  have:=List.length_pos_iff.2 hne
  omega
theorem RwF.at {base g n cap:Nat} {w:World} {k:List Fg} {X:Nat->Fg->Value->Value->Prop} (h:RwF base w (.slice (some ⟨g,0,none⟩) n cap) k X) (h0:0<cap) {i:Nat} (hi:i<k.length) :
 ∃ ha hb,w.cell? ⟨g,i * 2,none⟩=some ha/\w.frozen? ⟨g,i * 2,none⟩=false/\w.cell? ⟨g,i * 2+1,none⟩=some hb/\w.frozen? ⟨g,i * 2+1,none⟩=false/\X i k[i] ha hb:=by
 obtain⟨xs,h1,h2⟩:=h
 obtain⟨a,b,c,d,e⟩:=h2 i hi
 have hf:∀ o,w.frozen? ⟨g,o,none⟩=false:=by
  rcases h1.2 with⟨e,_⟩ | ⟨g',cap',cur,e,_,hc,_⟩
  ·cases e
  ·cases e
   intro o
   simp [World.frozen?,hc]
 have key:∀ j x,xs[j]? = some x->w.cell? ⟨g,j,none⟩=some x:=fun j x hx=>by
  have:=World.ownsRow.cells h1 (g:=g) (by cases cap with | zero=>omega | succ c=>rfl) j x hx
  rw [zh,Nat.zero_add] at this
  exact this
 exact⟨a,b,key _ _ c,hf _,key _ _ d,hf _,e⟩
theorem RwF.set {base g cap j:Nat} {w:World} {k:List Fg} {X:Nat->Fg->Value->Value->Prop} {a0 b0:Value} (h:RwF base w (.slice (some ⟨g,0,none⟩) k.length cap) k X) {Y:Nat->Fg->Value->Value->Prop} (hY:∀ i (h:i<k.length) a b,i≠j->X i k[i] a b->Y i k[i] a b) (hj:j<k.length) (h0:Y j k[j] a0 b0) :
 RwF base ((w.setCell ⟨g,j * 2,none⟩ a0).setCell ⟨g,j * 2+1,none⟩ b0) (.slice (some ⟨g,0,none⟩) k.length cap) k Y:=by
 obtain⟨xs,h1,h2⟩:=h
 obtain⟨s1,_⟩:=h1.stored (j * 2) a0
 obtain⟨s2,_⟩:=s1.stored (j * 2+1) b0
 refine⟨_,s2,fun i hi=>?_⟩
 obtain⟨a,b,c,d,e⟩:=h2 i hi
 by_cases hij:i=j
 ·subst hij
  have l1:=(List.getElem?_eq_some_iff.1 c).1
  have l2:=(List.getElem?_eq_some_iff.1 d).1
  exact⟨a0,b0,by rw [List.getElem?_set_ne (by omega),List.getElem?_set_self l1],by rw [List.getElem?_set_self (by simpa using l2)],h0⟩
 ·exact⟨a,b,by rw [List.getElem?_set_ne (by omega),List.getElem?_set_ne (by omega)];exact c,by rw [List.getElem?_set_ne (by omega),List.getElem?_set_ne (by omega)];exact d,hY i hi a b hij e⟩
theorem RwF.keep {base:Nat} {w w':World} {u:Value} {k:List Fg} {X:Nat->Fg->Value->Value->Prop} (h:RwF base w u k X) (hb:∀ k,k<w.heap.size->w'.heap[k]? = w.heap[k]?):RwF base w' u k X:=by
 obtain⟨xs,h1,h2⟩:=h
 refine⟨xs,⟨h1.1,?_⟩,h2⟩
 rcases h1.2 with h | ⟨g,cap,cur,e,hg,hc,r⟩
 ·exact .inl h
 ·exact .inr ⟨g,cap,cur,e,hg,(hb g (Array.getElem?_eq_some_iff.1 hc).1).trans hc,r⟩
def KO (base:Nat) (w:World) (u:Value) (k:List Fg):Prop:=RwF base w u k (fun _ f a b=>OwnR base w a f.items/\VO base w b f.vec)
theorem KO.mu {base:Nat} {w:World} {u:Value} {k:List Fg} (h:KO base w u k):MuF (base<=·) w u:=by
 obtain⟨ad,cap,rfl,h1,h2,h3⟩:=RwF.shape h
 refine⟨k.length,ad,cap,rfl,h1,h2,fun hn=>?_⟩
 have hne:k≠[]:=fun e=>by rw [e] at hn;exact hn rfl
 obtain⟨g,cur,rfl,hg,_,_,h0⟩:=h3 hne
 refine⟨g,0,rfl,fun j hj=>?_⟩
 obtain⟨ha,hb,a,_,b,_,e,f⟩:=RwF.at h h0 hj
 simp only [Nat.zero_add]
 exact⟨⟨ha,a,e.mu.mono fun b h=>h.1⟩,hb,b,RwE.mu f fun _ _ _ h=>h.mu.mono fun b h=>h.1⟩
theorem KO.dat {D:Nat->Nat->Prop} {base:Nat} {w:World} {u:Value} {k:List Fg} (h:KO base w u k) (hD:∀ b o,base<=b->b<w.heap.size->D b o):Dat D w u (kp k):=by
 obtain⟨ad,cap,rfl,h1,h2,h3⟩:=RwF.shape h
 have hlen:(k.map fc).length=k.length:=List.length_map _
 unfold kp
 by_cases hne:k=[]
 ·subst hne
  exact .sl ad cap 2 [] .sh 0 0 (fun _=>undef) (Nat.zero_le _) (fun h=>by cases h) h2 (fun h=>absurd rfl h) (fun i e h=>by simp at h) (fun j h=>by simp at h) (fun i e j p h=>by simp at h)
 obtain⟨g,cur,rfl,hg,hgl,_,h0⟩:=h3 hne
 have hcell:∀ i (hi:i<k.length) j p,(fc k[i])[j]? = some p->∃ x,w.cell? ⟨g,i * 2+j,none⟩=some x/\Dat D w x p/\x.oneCell'=true:=fun i hi j p hp=>by
  obtain⟨ha,hb,a,_,b,_,c,d⟩:=RwF.at h h0 hi
  match j,hp with
  | 0,hp=>
    cases hp
    have hd:=jp (D:=D) c.rd fun b o h1 h2=>hD b o h1 h2
    exact⟨_,a,hd,Ki hd⟩
  | 1,hp=>
    cases hp
    have hd:=RwE.dat (D:=D) d (fun i e hv h=>jp h.rd fun b o h1 h2=>hD b o h1 h2) fun b o h1 h2=>hD b o h1 h2
    obtain⟨a',c',e⟩:=d.shape
    exact⟨_,b,hd,by rw [e];rfl⟩
  | j+2,hp=>simp [fc] at hp
 rw [<-hlen]
 refine .sl (some ⟨g,0,none⟩) cap 2 (k.map fc) .sh g 0 (fun j=>(w.cell? ⟨g,j,none⟩).getD undef) (by rw [hlen];exact h1) (fun h=>by cases h) h2 (fun _=>rfl) (fun i e he=>?_) (fun j hj=>?_) (fun i e j p he hp=>?_)
 ·rw [List.getElem?_map] at he
  obtain⟨x,_,rfl⟩:=Option.map_eq_some_iff.1 he
  rfl
 ·rw [hlen] at hj
  have hi:j / 2<k.length:=by omega
  have h3':j % 2<(fc k[j / 2]).length:=Nat.mod_lt _ (by decide)
  obtain⟨x,hx,_,ho⟩:=hcell (j / 2) hi (j % 2) ((fc k[j / 2])[j % 2]) (List.getElem?_eq_getElem h3')
  rw [show j / 2 * 2+j % 2=j by omega] at hx
  simp only [Nat.zero_add,hx,Option.getD_some]
  exact⟨hD _ _ hg hgl,trivial,ho⟩
 ·rw [List.getElem?_map] at he
  obtain⟨x,hx,rfl⟩:=Option.map_eq_some_iff.1 he
  obtain⟨hi,rfl⟩:=List.getElem?_eq_some_iff.1 hx
  obtain⟨y,hy,hd,_⟩:=hcell i hi j p hp
  simp only [Nat.zero_add,hy,Option.getD_some]
  exact hd
theorem zss {D:Nat->Nat->Prop} {w:World} {x:Value} {v:List En} (h:Dat D w x (vp v)):∃ a c,x=.slice a v.length c:=by
 obtain⟨⟨a,n,c⟩,rfl,e⟩:=kH h
 simp only [List.length_map] at e
 subst e
 exact⟨a,c,rfl⟩
theorem zrM {D:Nat->Nat->Prop} {w:World} {x:Value} (k:List Fg) (d:Dat D w x (kp k)) (hD:∀ b o,D b o->b<w.heap.size) (hb:∀ f ∈ k,(∀ s ∈ f.items,s.lo<zk/\s.hi<zk)/\∀ e ∈ f.vec,ZL e) (hl:k.length<=1000000) (hz:∀ f ∈ k,f.items.length<=1000000/\f.vec.length<=1000000/\∀ e ∈ f.vec,e.holes.length<=1000000) :
 Calls Tryz.prog 7 #[x] w fun e w'=>∃ u,e=.returned u/\Below w.heap.size w w'/\KO w.heap.size w' u k:=by
 have hcl:=zry (es:=k.map fc) d (fun e he=>by obtain⟨x,_,rfl⟩:=List.mem_map.1 he;rfl) (by rw [List.length_map];omega)
 obtain⟨aa,ca,fs,rfl,hla,hrow,hfs⟩:=kX d hD
 have hca:=hrow.1
 have hcam:=hrow.2.1
 unfold maxLen at hcam
 rw [hla] at hca
 have HCL:=Lib.hid hcl
 have HROW:=Lib.hid hrow
 have HFS:=Lib.hid hfs
 have HDD:=Lib.hid hD
 have HB:=Lib.hid hb
 have HZ:=Lib.hid hz
 have mixed:Tryz.prog.follows .mixedOrders=true:=by kernel_rfl
 clear hcl d hD hb hz hrow hfs
 go_enter Tryz.func7,Tryz.ntmps7
 go_upto_region 2 with(go_at_call 18;refine HCL.out.mono ?_;rintro e w1 ⟨u,xs,rfl,hb1,ho1,hx1⟩)
 have hrw:RwF w.heap.size w1 u k (fun _ _ _ _=>True):=by
  refine⟨xs,by rw [List.length_map] at ho1;exact ho1,fun i hi=>?_⟩
  have he:(k.map fc)[i]? = some (fc k[i]):=by rw [List.getElem?_map,List.getElem?_eq_getElem hi];rfl
  obtain⟨x0,a0,_⟩:=hx1 i _ 0 _ he rfl
  obtain⟨x1,a1,_⟩:=hx1 i _ 1 _ he rfl
  exact⟨x0,x1,a0,a1,trivial⟩
 obtain⟨ad,cap,rfl,hcap,hcm,hrg⟩:=hrw.shape
 unfold maxLen at hcm
 have HRW:=Lib.hid hrw
 have HB1:=Lib.hid hb1
 have HRG:=Lib.hid hrg
 have hsz1:=hb1.size
 clear hrw ho1 hx1 hb1 hrg
 go_wp2_with fail
 go_loopg [10] k.length (fun gh x wr=>∃ j,j<=k.length/\gh=k.length - j/\x=.int .i64 j/\RwF w.heap.size wr (.slice ad k.length cap) k (fun i f a b=>i<j->OwnR w1.heap.size wr a f.items/\VO w1.heap.size wr b f.vec)/\Below w.heap.size w wr/\w1.heap.size<=wr.heap.size)
 case atStart=>exact⟨0,Nat.zero_le _,rfl,rfl,HRW.out.imp fun i f a b _ _=>fun h0=>absurd h0 (Nat.not_lt_zero _),HB1.out,Nat.le_refl _⟩
 case round=>
  obtain⟨j,hj,rfl,rfl,hrw,hbr,hsr⟩:=hrel
  have HR:=Lib.hid hrw
  have HBR:=Lib.hid hbr
  by_cases hlt:j<k.length
  ·obtain⟨g,cur,rfl,hg,hgl,_,h0⟩:=HRG.out (by intro e;subst e;simp at hlt)
   have hltf:j<fs.length:=by omega
   obtain⟨bb,off,rfl,hbn,hcel⟩:=HROW.out.2.2 (by intro e;subst e;simp at hltf)
   obtain⟨c0,c1⟩:=hcel j hltf
   obtain⟨d0,d1⟩:=HFS.out j hltf
   replace c0:=(hbr.cell (p:=⟨bb,off+j * 2,none⟩) hbn).trans c0
   replace c1:=(hbr.cell (p:=⟨bb,off+j * 2+1,none⟩) hbn).trans c1
   have hfm:=List.getElem_mem hlt
   have hbf:=HB.out _ hfm
   have hzf:=HZ.out _ hfm
   obtain⟨f,hf⟩:∃ f,f=k[j]:=⟨_,rfl⟩
   obtain⟨q,hq⟩:∃ q,q=fs[j]:=⟨_,rfl⟩
   rw [<-hf] at d0 d1 hbf hzf
   rw [<-hq] at d0 d1 c0 c1
   obtain⟨af,cf,e0⟩:=zK d0
   obtain⟨av,cv,e1⟩:=zss d1
   rw [e0] at c0 d0
   rw [e1] at c1 d1
   have HF:=Lib.hid hf
   clear hq e0 e1 hf hfm hcel
   obtain⟨wb,hwb⟩:∃ wb,wb=wr.alloc (.cells #[.slice af f.items.length cf,.slice av f.vec.length cv] 32):=⟨_,rfl⟩
   have hxb:wb.heap[wr.heap.size]? = some (.cells #[.slice af f.items.length cf,.slice av f.vec.length cv] 32 (0,0)):=by rw [hwb];exact World.alloc_heap_new wr _
   have hbb:Below wr.heap.size wr wb:=by rw [hwb];exact(Below.refl _ wr).alloc (Nat.le_refl _) _
   have hsb:wb.heap.size=wr.heap.size+1:=by rw [hwb];simp
   have hBW:∀ W,Below wb.heap.size wb W->Below w.heap.size w W:=fun W hW=>hbr.trans ((hbb.mono (by omega)).trans (hW.mono (by omega)))
   have hw:∀ W,Below wb.heap.size wb W->∀ b o x,D b o->w.cell? ⟨b,o,none⟩=some x->W.cell? ⟨b,o,none⟩=some x:=fun W hW b o x h hx=>(World.cell?_of_block (a:=⟨b,o,none⟩) ((hBW W hW).block b (HDD.out b o h))).trans hx
   have hD1:∀ W,Below wb.heap.size wb W->∀ b o,D b o->b<W.heap.size:=fun W hW b o h=>Nat.lt_of_lt_of_le (HDD.out b o h) (hBW W hW).size
   have HC1:=Lib.hid (fun W (hW:Below wb.heap.size wb W)=>zeX (je (d0.mono (fun _ _ h=>h) (hw W hW)) (hD1 W hW) hbf.1) (by omega))
   have HC2:=Lib.hid (fun W (hW:Below wb.heap.size wb W)=>zq3 f.vec (d1.mono (fun _ _ h=>h) (hw W hW)) (hD1 W hW) hbf.2 (by omega) fun e he=>by have:=hzf.2.2 e he;omega)
   have HXB:=Lib.hid hxb
   have HBB:=Lib.hid hbb
   have g0:=(zW hxb 0 _ rfl).1
   have g1:=(zW hxb 1 _ rfl).1
   clear d0 d1 hxb hbb hBW hw hD1 hbf hzf hrw hbr
   go_wp2_with fail
   rw [<-hwb]
   have hc1:Below wb.heap.size wb wb.drew:=(Below.refl _ _).drew
   clear hwb
   refine Kg (Sw:=qe) 9 27 (fun w9=>Below wb.heap.size wb w9/\w9.cell? ⟨wr.heap.size,0,none⟩=some (.slice af f.items.length cf)/\w9.cell? ⟨wr.heap.size,1,none⟩=some (.slice av f.vec.length cv)) (by kernel_rfl) (by kernel_rfl) rfl ⟨hc1,g0,g1⟩ ?_
   simp only [List.take_succ_cons,List.take_zero]
   refine Jz ?_
   refine V7 (fun u w9=>∃ au cu,u=.slice au f.items.length cu/\OwnR wb.heap.size w9 u f.items) (fun u wa wb h hk=>by obtain⟨au,cu,e,h⟩:=h;exact⟨au,cu,e,h.keep hk fun _ _=>id⟩) rfl ?_ ?_
   ·intro a2 w2 hc hk hr K hK
    have HK:=Lib.hid hK
    clear hK
    simp [Rds,zA,lk,Op.operands,Call.operands,RdEq] at hr
    go_simp
    refine(HC1.out _ hc.1).mono ?_
    rintro e w3 ⟨u,rfl,ho,hb⟩
    obtain⟨au,cu,rfl⟩:=ho.val
    have hkb:Keep qe _ w3:=Keep.of_below' hb (Nat.le_refl _)
    exact HK.out _ _ hkb ⟨hc.1.trans (hb.mono hc.1.size),hkb.cell_some hc.2.1 id,hkb.cell_some hc.2.2 id⟩ ⟨au,cu,rfl,ho.mono hc.1.size⟩
   dsimp only [List.nil_append,List.cons_append]
   refine Jz ?_
   refine V7 (fun u w9=>∃ au cu,u=.slice au f.vec.length cu/\VO wb.heap.size w9 u f.vec) (fun u wa wb h hk=>by obtain⟨au,cu,e,h⟩:=h;exact⟨au,cu,e,h.keep hk fun _ _=>id⟩) rfl ?_ ?_
   ·intro a2 w2 hc hk hr K hK
    have HK:=Lib.hid hK
    clear hK
    simp [Rds,zA,lk,Op.operands,Call.operands,RdEq] at hr
    go_simp
    refine(HC2.out _ hc.1).mono ?_
    rintro e w3 ⟨u,rfl,hb,ho⟩
    have ho:VO _ w3 u f.vec:=ho
    obtain⟨au,cu,rfl⟩:=ho.shape
    have hkb:Keep qe _ w3:=Keep.of_below' hb (Nat.le_refl _)
    exact HK.out _ _ hkb ⟨hc.1.trans (hb.mono hc.1.size),hkb.cell_some hc.2.1 id,hkb.cell_some hc.2.2 id⟩ ⟨au,cu,rfl,ho.mono hc.1.size⟩
   dsimp only [List.nil_append,List.cons_append]
   refine Jz ?_
   refine V7 (fun u w9=>∃ a1 n1 a2 n2,u=.agg #[.slice a1 f.items.length n1,.slice a2 f.vec.length n2]/\OwnR wb.heap.size w9 (.slice a1 f.items.length n1) f.items/\VO wb.heap.size w9 (.slice a2 f.vec.length n2) f.vec) (fun u wa wb h hk=>by obtain⟨a1,n1,a2,n2,e,h,h'⟩:=h;exact⟨a1,n1,a2,n2,e,h.keep hk fun _ _=>id,h'.keep hk fun _ _=>id⟩) rfl ?_ ?_
   ·intro a2 w2 hc hk hr K hK
    have HK:=Lib.hid hK
    clear hK
    simp [Rds,zA,lk,Op.operands,Call.operands,RdEq] at hr
    obtain⟨⟨_,⟨e1,e2⟩,⟨au,cu,rfl⟩,ho⟩,_,⟨e3,e4⟩,⟨aw,cw,rfl⟩,hv⟩:=hr
    go_simp
    exact HK.out _ _ (Keep.refl _ _) hc ⟨au,cu,aw,cw,rfl,ho,hv⟩
   dsimp only [List.nil_append,List.cons_append]
   intro w2 hc2 hk2
   simp only [finG,forall_eq,List.nil_append,List.cons_append,List.drop_succ_cons,List.drop_zero,List.drop_nil]
   simp only [Act.put,List.setIfInBounds_toArray,List.set_cons_succ,List.set_cons_zero]
   rintro _ ⟨_,_,rfl,_⟩ _ ⟨_,_,rfl,_⟩ _ ⟨a1,n1,a2,n2,rfl,hu,hv⟩
   have HU:=Lib.hid hu
   have HV:=Lib.hid hv
   have HCB:=Lib.hid hc2.1
   have hsz2:=hc2.1.size
   have hrw2:=HR.out.keep (w':=w2) (fun b hb=>(HCB.out.block b (by omega)).trans (HBB.out.block b hb))
   obtain⟨xa,xb,cia,fia,cib,fib,_⟩:=hrw2.at h0 hlt
   have HR2:=Lib.hid hrw2
   clear hu hv hc2 hk2 hc1 hrw2 g0 g1 c0 c1
   go_wp2_with fail
   go_roundg (k.length - (j+1))
   case measure=>omega
   case rel=>
    have hS:∀ x,w1.heap.size<=x->¬ x=g:=fun x hx e=>by omega
    refine⟨j+1,hlt,rfl,by simp,HR2.out.set (fun i hi a b hne hx hij=>?_) hlt (fun _=>?_),?_,by simp;omega⟩
    ·have hkk:=(((Keep.of_below' (S:=fun x=>x=g) HBB.out (Nat.le_refl _)).trans (Keep.of_below' HCB.out (Nat.le_refl _))).setCell (p:=⟨g,j * 2,none⟩) (fun _=>rfl) (.slice a1 f.items.length n1)).setCell (p:=⟨g,j * 2+1,none⟩) (fun _=>rfl) (.slice a2 f.vec.length n2)
     obtain⟨h1,h2⟩:=hx (by omega)
     exact⟨h1.keep hkk hS,h2.keep hkk hS⟩
    ·have hkk:=((Keep.refl (fun x=>x=g) w2).setCell (p:=⟨g,j * 2,none⟩) (fun _=>rfl) (.slice a1 f.items.length n1)).setCell (p:=⟨g,j * 2+1,none⟩) (fun _=>rfl) (.slice a2 f.vec.length n2)
     rw [<-HF.out]
     exact⟨(HU.out.mono (by omega)).keep hkk hS,(HV.out.mono (by omega)).keep hkk hS⟩
    ·exact Below.setCell (Below.setCell (HBR.out.trans ((HBB.out.mono (by omega)).trans (HCB.out.mono (by omega)))) (by show w.heap.size<=g;omega) _) (by show w.heap.size<=g;omega) _
  ·obtain rfl:j=k.length:=by omega
   go_wp2_with fail
   refine bodyPost_ret (results_tmp rfl _ _ _) rfl ?_
   exact⟨_,rfl,HBR.out,HR.out.imp fun i f a b hi hx=>⟨(hx hi).1.mono (by omega),(hx hi).2.mono (by omega)⟩⟩
end Go.Proofs.YtopfkkogooocgaaGreat
