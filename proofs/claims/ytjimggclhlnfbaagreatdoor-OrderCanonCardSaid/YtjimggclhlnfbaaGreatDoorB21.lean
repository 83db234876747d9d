import Derived.Test.YtjimggclhlnfbaaGreatDoorB20
set_option maxHeartbeats 16000000
set_option linter.unusedVariables false
set_option linter.unusedSimpArgs false
set_option maxRecDepth 100000
namespace Go.Proofs.YtjimggclhlnfbaaGreatDoor
open Go.RowKit
theorem zaJ:CanK []:=⟨GrpI.nil,List.Pairwise.nil⟩
theorem zcY (i r c:Nat):hasK [] i r c=false:=rfl
theorem KP {f:Bool->Bool->Bool} (hf:f false false=false) {a b:List Fg} (ha:RightK a) (hb:RightK b):vh f a b=[] ↔ ∀ i r c,i<zk->c<zk->f (hasK a i r c) (hasK b i r c)=false:=by
 constructor
 ·intro h i r c hi hc
  rw [<-zcZ hf ha hb hi hc,h];rfl
 ·intro h
  exact XN (ze5 ha hb) zaJ fun i r c hi hc=>by rw [zcZ hf ha hb hi hc,h i r c hi hc];rfl
theorem V0 {a b:List Fg} (ha:RightK a) (hb:RightK b):vh zm a b=[] ↔ ∀ i r c,i<zk->c<zk->hasK a i r c=true->hasK b i r c=true:=by
 rw [KP rfl ha hb]
 refine⟨fun h i r c hi hc h1=>?_,fun h i r c hi hc=>?_⟩
 ·have:=h i r c hi hc
  rw [h1] at this
  simpa [zm] using this
 ·have:=h i r c hi hc
  cases h1:hasK a i r c<;>cases h2:hasK b i r c<;>simp_all [zm]
noncomputable def zbC (a b:List Fg):Nat:=if vh zm a b=[] then (if vh zm b a=[] then 0 else 1) else (if vh zm b a=[] then 2 else 3)
theorem zcl {a b:List Fg}:zbC a b=0 ↔ vh zm a b=[]/\vh zm b a=[]:=by
 unfold zbC
 split<;>split<;>simp_all
theorem zeE {a b:List Fg} (ha:RightK a) (hb:RightK b):zbC a b=0 ↔ zbx a=zbx b:=by
 rw [zcl,V0 ha hb,V0 hb ha]
 constructor
 ·intro h
  refine XN (zbX ha) (zbX hb) fun i r c hi hc=>?_
  rw [zbW ha hi hc,zbW hb hi hc,Bool.eq_iff_iff]
  exact⟨h.1 i r c hi hc,h.2 i r c hi hc⟩
 ·intro h
  refine⟨fun i r c hi hc h1=>?_,fun i r c hi hc h1=>?_⟩
  ·rw [<-zbW hb hi hc,<-h,zbW ha hi hc];exact h1
  ·rw [<-zbW ha hi hc,h,zbW hb hi hc];exact h1
theorem ziK {a:List Fg} (ha:RightK a):zbC a (zbx a)=0:=
 (zeE ha (zbX ha).right).2 (zeL (zbX ha)).symm
theorem WV.smv {C:Nat->List Nat} {R:List Nat} {v:List En} (h:WV C R v) (ok:OkC C R):SmV v:=(h.bv ok.1 ok.2).mono (Nat.le_refl _) (by omega)
theorem zfh {k:List Fg} (h:vx k=true) (hr:RightK k) {f:Fg} (hf:f ∈ k):SmV f.vec:=by
 have:=vw.1 ((Z3.1 h).1 f hf).2
 exact⟨(hr f hf).2,by omega,fun e he=>by have:=this.1 e he;omega⟩
theorem kH {D:Nat->Nat->Prop} {w:World} {x:Value} {es:List (List PV)} {o:Ow} (h:Dat D w x (.sl es o)):∃ s:Sv,x=sv s/\s.2.1=es.length:=by
 obtain⟨ad,cap,sz,b,off,f,e1,_⟩:=(Rel.dat (ρ:=fun _=>0) (nb:=0) h).inv_sl
 exact⟨(ad,es.length,cap),e1,rfl⟩
theorem kX {D:Nat->Nat->Prop} {n0:Nat} {w:World} {v:Value} {k:List Fg} (h:Dat D w v (kp k)) (hD:∀ b o,D b o->b<n0) :
 ∃ a cap fs,v=.slice a k.length cap/\∃ hl:fs.length=k.length,zeF n0 w a cap fs/\∀ i (h:i<fs.length),Dat D w (sv fs[i].1) (rg (k[i]'(hl ▸ h)).items)/\Dat D w (sv fs[i].2) (vp (k[i]'(hl ▸ h)).vec):=by
 unfold kp at h
 generalize he:k.map fc=es at h
 cases h with
 | sl a cap sz es o b off u hc hz hm ha hsz hd hx=>
   have hl:es.length=k.length:=by rw [<-he];simp
   have g:∀ i (h:i<k.length),es[i]? = some (fc k[i]):=fun i h=>by rw [<-he];exact xo h
   have each:∀ i,i<k.length->∃ f:Fv,∀ h:i<k.length,(sz=2/\u (i * 2)=sv f.1/\u (i * 2+1)=sv f.2)/\Dat D w (sv f.1) (rg k[i].items)/\Dat D w (sv f.2) (vp k[i].vec):=fun i hi=>by
    obtain rfl:2=sz:=hsz i _ (g i hi)
    have d0:Dat D w (u (i * 2+0)) (rg k[i].items):=hx i _ 0 _ (g i hi) rfl
    have d1:Dat D w (u (i * 2+1)) (vp k[i].vec):=hx i _ 1 _ (g i hi) rfl
    obtain⟨s0,e0,_⟩:=kH d0
    obtain⟨s1,e1,_⟩:=kH d1
    rw [e0] at d0
    rw [e1] at d1
    exact⟨(s0,s1),fun _=>⟨⟨rfl,e0,e1⟩,d0,d1⟩⟩
   obtain⟨F,hF⟩:=Go.Deep.choose_lt each
   refine⟨a,cap,(List.range k.length).map F,by rw [hl],by simp,⟨by simp;omega,hm,fun hne=>?_⟩,fun i hi=>?_⟩
   ·have hpos:0<k.length:=by
     rcases Nat.eq_zero_or_pos k.length with h0 | h0
     ·rw [h0] at hne;simp at hne
     ·exact h0
    obtain⟨⟨rfl,_⟩,_⟩:=hF 0 hpos hpos
    have hes:es≠[]:=by intro e;subst e;simp at hl;omega
    refine⟨b,off,ha hes,hD _ _ (hd 0 (by omega)).1,fun i hi=>?_⟩
    have hi':i<k.length:=by simpa using hi
    obtain⟨⟨_,e0,e1⟩,_⟩:=hF i hi' hi'
    have c0:=(hd (i * 2) (by omega)).2.1
    have c1:=(hd (i * 2+1) (by omega)).2.1
    rw [e0] at c0
    rw [e1] at c1
    simp only [List.getElem_map,List.getElem_range]
    exact⟨c0,c1⟩
   ·have hi':i<k.length:=by simpa using hi
    simp only [List.getElem_map,List.getElem_range]
    exact(hF i hi' hi').2
theorem zez {hit:Nat->Bool} {p:Nat × Fv}:∀ {l:List Fv} {n:Nat},p ∈ wl hit n l->∃ h:p.1 - n<l.length,n<=p.1/\p.2=l[p.1 - n]/\hit p.1=true
 | [],n,h=>by cases h
 | f::l,n,h=>by
   unfold wl at h
   have rst:p ∈ wl hit (n+1) l->∃ h:p.1 - n<(f::l).length,n<=p.1/\p.2=(f::l)[p.1 - n]/\hit p.1=true:=fun h=>by
    obtain⟨h1,h2,h3,h4⟩:=zez h
    refine⟨by simp;omega,by omega,?_,h4⟩
    rw [h3]
    have e:p.1 - n=(p.1 - (n+1))+1:=by omega
    simp only [e,List.getElem_cons_succ]
   split at h
   ·rename_i hh
    rcases List.mem_cons.1 h with rfl | h
    ·exact⟨by simp,Nat.le_refl _,by simp,hh⟩
    ·exact rst h
   ·exact rst h
theorem Yp {α:Type} {k:List Fg} {fs:List Fv} (hl:fs.length=k.length) (item:Nat) (step:α->Nat->Fg->α) (a0:α) :
 (wl (fun j=>mem (k.getD j default).items item) 0 fs).foldl (fun a p=>step a p.1 (k.getD p.1 default)) a0=(qd item 0 k).foldl (fun a p=>step a p.1 p.2) a0:=by
 have key:∀ j,j<=k.length->(wl (fun j=>mem (k.getD j default).items item) 0 (fs.take j)).foldl (fun a p=>step a p.1 (k.getD p.1 default)) a0=(qd item 0 (k.take j)).foldl (fun a p=>step a p.1 p.2) a0:=by
  intro j
  induction j with
  | zero=>intro _;rfl
  | succ j ih=>
    intro hj
    rw [XF (by omega),j9 item (by omega),List.foldl_append,List.foldl_append,ih (by omega)]
    have e:k.getD j default=k[j]:=by simp [List.getD_eq_getElem?_getD,List.getElem?_eq_getElem (show j<k.length by omega)]
    simp only [e]
    split
    ·show step _ j (k.getD j default)=step _ j k[j]
     rw [e]
    ·rfl
 have:=key k.length (Nat.le_refl _)
 rwa [<-hl,List.take_length,hl,List.take_length] at this
def V8 (k:List Fg) (i:Nat):PV:=.fn (.func 115) [] [.cp [kp k] 0,.cp [.v (.int .u64 i)] 0]
def zmf (k:List Fg):PV:=.fn (.func 118) [] [.cp [kp k] 0]
attribute [go_sem] V8 zmf
theorem zfB (k:List Fg) (i:Nat):Cn Tryz.prog 68 [kp k,.v (.int .u64 i)] (V8 k i):=by
 refine zt Tryz.func68 2 ?_
 exact pd
theorem zjy (v:List En) (i:Nat) (f:Fg) (hv:SmV v) (hf:SmV f.vec):Cn Tryz.prog 69 [vp v,.v (.int .i64 i),fp f] (vp (ks zn v f.vec)):=by
 refine zt Tryz.func69 3 ?_
 refine pw ?_
 exact .d (zdc v f.vec hv hf)
abbrev Tr:=Nat × Nat × Nat
def zeY (t u:Tr):Int:=zZ [t.1,t.2.1,t.2.2] [u.1,u.2.1,u.2.2]
def Vq (o:Option Tr) (t:Tr):Option Tr:=match o with
 | none=>some t
 | some u=>if zeY t u<0 then some t else some u
def XE (x:Nat) (e:En):List Tr:=match kn e with
 | []=>[]
 | s::_=>[(x,e.rep,s.lo)]
def V3 (f:Fg):List Tr:=match f.items with
 | []=>[]
 | s::_=>f.vec.flatMap (XE s.lo)
def kY (k:List Fg):Option Tr:=(k.flatMap V3).foldl Vq none
def leT (t u:Tr):Prop:=t.1<u.1\/(t.1=u.1/\(t.2.1<u.2.1\/(t.2.1=u.2.1/\t.2.2<=u.2.2)))
theorem zdf {t u:Tr} (h1:leT t u) (h2:leT u t):t=u:=by
 obtain⟨a,b,c⟩:=t
 obtain⟨a',b',c'⟩:=u
 unfold leT at h1 h2
 simp only at h1 h2
 have e1:a=a':=by omega
 have e2:b=b':=by omega
 have e3:c=c':=by omega
 rw [e1,e2,e3]
structure IsLeast (k:List Fg) (t:Tr):Prop where
 b1:t.1<zk
 b2:t.2.2<zk
 has:hasK k t.1 t.2.1 t.2.2=true
 le:∀ i r c,i<zk->c<zk->hasK k i r c=true->leT t (i,r,c)
theorem IsLeast.eq {k:List Fg} {t u:Tr} (h:IsLeast k t) (g:IsLeast k u):t=u:=
 zdf (h.le _ _ _ g.b1 g.b2 g.has) (g.le _ _ _ h.b1 h.b2 h.has)
theorem zfo {k:List Fg} (h:RightK k) {i r c:Nat}:hasK k i r c=true ↔ ∃ f ∈ k,mem f.items i=true/\∃ e ∈ f.vec,e.rep=r/\mem (kn e) c=true:=by
 rw [km]
 refine exists_congr fun f=>and_congr_right fun hf=>and_congr_right fun _=>?_
 have hv:=(h f hf).2
 constructor
 ·intro hm
  by_cases hn:∀ e ∈ f.vec,e.rep≠r
  ·rw [qC hn] at hm;cases hm
  ·simp only [Classical.not_forall,Classical.not_not] at hn
   obtain⟨e,he,hr⟩:=hn
   refine⟨e,he,hr,?_⟩
   rw [<-hr,kq hv.2 he] at hm
   exact hm
 ·rintro⟨e,he,rfl,hm⟩
  rw [kq hv.2 he];exact hm
end Go.Proofs.YtjimggclhlnfbaaGreatDoor
namespace Go.Proofs.YtjimggclhlnfbaaGreatDoor
open Go.RowKit Go.Maps
attribute [-go_sem] z7
def MapS (D:DV) (S:List Nat):Prop:=IsMap D/\∀ r,has D (kR r)=decide (r ∈ S)
theorem MapS.nil:MapS (.map []) []:=⟨⟨[],rfl⟩,fun r=>by simp [has]⟩
theorem MapS.put {D:DV} {S:List Nat} (h:MapS D S) (r:Nat) (v:DV):MapS (D.put (kR r) v) (S++[r]):=by
 refine⟨h.1.put _ _,fun s=>?_⟩
 by_cases e:s=r
 ·subst e
  rw [has_put_same h.1 (Qc _)];simp
 ·rw [has_put_other (fun h=>e (Xa h)),h.2 s];simp [e]
def MI (B:Nat) (w:World) (S:List Nat):Prop:=∃ D,w.ownsMap Tryz.prog 24 rV B S.length D/\MapS D S
theorem MI.made (w:World):MI w.heap.size (w.alloc (.map #[] 0)) []:=⟨_,World.ownsMap_made _ _ _ _,MapS.nil⟩
theorem MI.keep {B:Nat} {w w':World} {S:List Nat} (h:MI B w S) (hb:w'.heap[B]? = w.heap[B]?):MI B w' S:=by
 obtain⟨D,h1,h2⟩:=h
 exact⟨D,yg h1 hb,h2⟩
theorem MI.lt {B:Nat} {w:World} {S:List Nat} (h:MI B w S):B<w.heap.size:=by
 obtain⟨D,h1,_⟩:=h
 exact h1.lt
theorem xe {w:World} {ops:Array Oper} {rest:List Oper} {o:Oper} {a:Act} {Q:Exit->Act->World->Prop} (hg:o.guard=none) (m x v:Operand)
 (hop:o.op=.mapUpdate 246 m x v\/o.op=.insert 246 m x v) {B:Nat} {S:List Nat} (hm:a.eval m=.map (some B)) (h:MI B w S) (hn:S.length<maxLen) {r:Nat} (hr:r<zk) (hx:a.eval x=.int .u64 (r:Nat))
 (hK:∀ w',MI B w' (S++[r])->w.grownBy w' (some B)->wpList Tryz.prog ops Q rest (a.put o.dst undef) w'):wpList Tryz.prog ops Q (o::rest) a w:=by
 obtain⟨D,h1,h2⟩:=h
 refine wpList_plain hg fun K' hK'=>?_
 obtain⟨w',hrun,r1,r2⟩:=h1.update vF Tryz.underlying246 hn (Zq hr) (val:=a.eval v) rfl
 unfold Oper.wp
 rcases hop with hop | hop
 ·simp [execOp,hop,hm,hx,hrun,Result.andThen]
  exact hK' _ _ (hK w' ⟨_,by simpa using r1,h2.put r _⟩ r2)
 ·simp [execOp,hop,hm,hx,hrun,Result.andThen]
  exact hK' _ _ (hK w' ⟨_,by simpa using r1,h2.put r _⟩ r2)
def rdG (n0:Nat) (w:World) (b o:Nat) (f:Fg):Prop:=(∃ hv,w.cell? ⟨b,o,none⟩=some hv/\RdR 0 n0 w hv f.items)/\∃ ad n c,w.cell? ⟨b,o+1,none⟩=some (.slice ad n c)
theorem ze3 {D:Nat->Nat->Prop} {w:World} {x:Value} {k:List Fg} (h:Dat D w x (kp k)) (hD:∀ b o,D b o->b<w.heap.size) (hb:RightK k):RdSl 2 (rdG w.heap.size) 0 w.heap.size w x k:=by
 unfold kp at h
 generalize he:k.map fc=es at h
 cases h with
 | sl a cap sz es o b off u hc hz hm ha hsz hd hx=>
   have hl:es.length=k.length:=by rw [<-he];simp
   refine⟨a,cap,by rw [hl],by omega,hm,fun hne=>?_⟩
   have hpos:0<k.length:=List.length_pos_iff.2 hne
   have g:∀ i (h:i<k.length),es[i]? = some (fc k[i]):=fun i h=>by rw [<-he];exact xo h
   obtain rfl:2=sz:=hsz 0 _ (g 0 hpos)
   have hes:es≠[]:=by intro e;subst e;simp at hl;omega
   have hdlt:b<w.heap.size:=hD _ _ (hd 0 (by omega)).1
   refine⟨b,off,ha hes,Nat.zero_le _,hdlt,fun i hi=>?_⟩
   have e0:=hx i _ 0 _ (g i hi) rfl
   have e1:=hx i _ 1 _ (g i hi) rfl
   have c0:=(hd (i * 2+0) (by omega)).2.1
   have c1:=(hd (i * 2+1) (by omega)).2.1
   obtain⟨ad,c,sz',b',off',f',q,_⟩:=(Rel.dat (ρ:=fun _=>0) (nb:=0) (show Dat D w (u (i * 2+1)) (.sl (k[i].vec.map ec) .sh) from e1)).inv_sl
   rw [q] at c1
   exact⟨⟨_,c0,je e0 hD (hb _ (List.getElem_mem hi)).1.lt⟩,_,_,_,c1⟩
theorem RdG.keep {n0:Nat} {w w':World} {v:Value} {k:List Fg} (h:RdSl 2 (rdG n0) 0 n0 w v k) (hb:∀ j,j<n0->w'.heap[j]? = w.heap[j]?):RdSl 2 (rdG n0) 0 n0 w' v k:=
 RdSl.keep h (Nat.le_refl _) (Nat.le_refl _) fun b o x _ h2 ⟨⟨hv,c0,c1⟩,ad,n,c,c2⟩=>
  ⟨⟨hv,(World.cell?_of_block (a:=⟨b,o,none⟩) (hb b h2)).trans c0,c1.keep (Nat.le_refl _) (Nat.le_refl _) fun b _ h=>hb b h⟩,ad,n,c,(World.cell?_of_block (a:=⟨b,o+1,none⟩) (hb b h2)).trans c2⟩
theorem Ky {k:List Fg} {i:Nat} (hi:i<k.length):CI (k.take (i+1))=CI (k.take i)++z6 k[i].items:=by
 unfold CI
 rw [List.take_succ_eq_append_getElem hi,List.flatMap_append]
 simp
theorem zaV {l:List Iv} {j:Nat} (hj:j<l.length):z6 (l.take (j+1))=z6 (l.take j)++jQ l[j]:=by
 unfold z6
 rw [List.take_succ_eq_append_getElem hj,List.flatMap_append]
 simp
theorem ze0 {s:Iv} (h:s.hi=zk - 1):jQ s=[s.lo]:=by unfold jQ;rw [if_neg (by omega)]
theorem zcz {s:Iv} (h:s.hi<zk - 1):jQ s=[s.lo]++[s.hi+1]:=by unfold jQ;rw [if_pos h];rfl
theorem zfO (w:World):Calls Tryz.prog 201 #[.int .u64 18446744073709551615] w fun e w'=>e=.returned (.tuple #[.int .u64 0,.bool false])/\w'=w:=by
 go_enter Tryz.func201,Tryz.ntmps201
 go_wp2
 all_goals (refine bodyPost_ret (results_tmp2 rfl _ _ _) rfl ?_;refine⟨?_,rfl⟩;simp;try omega)
theorem zdr (x:Nat) (hx:x<18446744073709551615) (w:World):Calls Tryz.prog 201 #[.int .u64 (x:Nat)] w fun e w'=>e=.returned (.tuple #[.int .u64 ((x:Int)+1),.bool true])/\w'=w:=by
 go_enter Tryz.func201,Tryz.ntmps201
 go_wp2
 all_goals (refine bodyPost_ret (results_tmp2 rfl _ _ _) rfl ?_;refine⟨?_,rfl⟩;simp;try omega)
theorem zgc (w:World):Calls Tryz.prog 202 #[.int .u64 0] w fun e w'=>e=.returned (.tuple #[.int .u64 0,.bool false])/\w'=w:=by
 go_enter Tryz.func202,Tryz.ntmps202
 go_wp2
 all_goals (refine bodyPost_ret (results_tmp2 rfl _ _ _) rfl ?_;refine⟨?_,rfl⟩;simp;try omega)
theorem VH (x:Nat) (hx:x<18446744073709551615) (w:World):Calls Tryz.prog 202 #[.int .u64 ((x:Int)+1)] w fun e w'=>e=.returned (.tuple #[.int .u64 (x:Nat),.bool true])/\w'=w:=by
 go_enter Tryz.func202,Tryz.ntmps202
 go_wp2
 all_goals (refine bodyPost_ret (results_tmp2 rfl _ _ _) rfl ?_;refine⟨?_,rfl⟩;simp;try omega)
def RgS (B r n:Nat) (S:List Nat) (keep:Nat->Bool) (g:Nat) (left:Lit->Bool) (w:World):Prop:=
 ∃ D,w.ranges Tryz.prog 24 rV B r n D left g/\IsMap D/\(∀ x,has D (kR x)=(decide (x ∈ S) && (left (kR x) || keep x)))/\∀ x,left (kR x)=true->x ∈ S
def GotS (S:List Nat) (left:Lit->Bool) (l:List Nat):Prop:=l.Nodup/\∀ x,x ∈ l ↔ x ∈ S/\left (kR x)=false
theorem zay {left:Lit->Bool} {r x:Nat}:(left (kR r) && !(kR r).sameKey (kR x))=(left (kR r) && !decide (r=x)):=by
 have h:(kR r).sameKey (kR x)=decide (r=x):=by
  simp [kR,Lit.sameKey]
  omega
 rw [h]
section
variable {B r n g x:Nat} {S:List Nat} {kp:Nat->Bool} {left:Lit->Bool} {w:World} {D:DV}
theorem RgS.next (hD:IsMap D) (hh:∀ y,has D (kR y)=(decide (y ∈ S) && (left (kR y) || kp y))) (hl:∀ y,left (kR y)=true->y ∈ S) (hx:left (kR x)=true) (hk:kp x=true)
 (h:w.ranges Tryz.prog 24 rV B r n D (fun z=>left z && !z.sameKey (kR x)) g):RgS B r n S kp g (fun z=>left z && !z.sameKey (kR x)) w:=by
 refine⟨D,h,hD,fun y=>?_,fun y hy=>hl y ?_⟩
 ·dsimp only
  rw [hh y,zay]
  by_cases e:y=x
  ·subst e;simp [hk]
  ·simp [e]
 ·dsimp only at hy
  cases h0:left (kR y) with
  | true=>rfl
  | false=>rw [h0] at hy;simp at hy
theorem RgS.del (hD:IsMap D) (hh:∀ y,has D (kR y)=(decide (y ∈ S) && (left (kR y) || kp y))) (hl:∀ y,left (kR y)=true->y ∈ S) (hk:kp x=false)
 (h:w.ranges Tryz.prog 24 rV B r n (D.del (kR x)) (fun z=>(left z && !z.sameKey (kR x)) && !z.sameKey (kR x)) g):RgS B r n S kp g (fun z=>left z && !z.sameKey (kR x)) w:=by
 rw [Maps.strike_twice] at h
 refine⟨_,h,hD.del _,fun y=>?_,fun y hy=>hl y ?_⟩
 ·dsimp only
  rw [zay]
  by_cases e:y=x
  ·subst e;rw [has_del_same];simp [hk]
  ·rw [has_del_other (fun h=>e (Xa h)),hh y];simp [e]
 ·dsimp only at hy
  cases h0:left (kR y) with
  | true=>rfl
  | false=>rw [h0] at hy;simp at hy
theorem RgS.keep {w':World} (h:RgS B r n S kp g left w) (hb:w'.heap[B]? = w.heap[B]?) (hr:w'.heap[r]? = w.heap[r]?):RgS B r n S kp g left w':=by
 obtain⟨D,h1,h2⟩:=h
 exact⟨D,yD h1 hb hr,h2⟩
theorem GotS.nil (h:∀ y,left (kR y)=true ↔ y ∈ S):GotS S left []:=
 ⟨List.nodup_nil,fun y=>by
  constructor
  ·intro h;cases h
  ·rintro⟨h1,h2⟩
   rw [(h y).2 h1] at h2
   cases h2⟩
theorem GotS.push {l:List Nat} (h:GotS S left l) (hx:left (kR x)=true) (hS:x ∈ S):GotS S (fun z=>left z && !z.sameKey (kR x)) (l++[x]):=by
 refine⟨List.nodup_append.2 ⟨h.1,by simp,fun a ha b hb e=>?_⟩,fun y=>?_⟩
 ·rw [List.mem_singleton] at hb
  rw [e,hb] at ha
  have:=((h.2 x).1 ha).2
  rw [hx] at this
  cases this
 ·dsimp only
  rw [QM,List.mem_append,List.mem_singleton,h.2 y]
  constructor
  ·rintro(⟨h1,h2⟩ | rfl)
   ·exact⟨h1,.inl h2⟩
   ·exact⟨hS,.inr rfl⟩
  ·rintro⟨h1,h2 | h2⟩
   ·exact .inl ⟨h1,h2⟩
   ·exact .inr h2
end
def kpB (k:List Fg) (x:Nat):Bool:=decide (x=0) || !decide (zU k (x - 1)=zU k x)
theorem Yd {k:List Fg} (hr:RightK k) {l:List Nat} (hp:l.Pairwise (·<=·)) (hn:l.Nodup) (hm:∀ x,x ∈ l ↔ x ∈ 0::CI k/\(x=0\/zU k (x - 1)≠zU k x)):l=zq k:=by
 have ha:YN l:=by
  refine(List.pairwise_and_iff.2 ⟨hp,hn⟩).imp ?_
  intro a b h
  have:=h.1
  have:=h.2
  omega
 refine jK ha (xc k) fun x=>?_
 rw [hm,zq,List.mem_filter,zH,qr,yU]
 have e1:(k.map Fg.items).flatMap z6=CI k:=by unfold CI;rw [List.flatMap_map]
 rw [e1]
 simp only [Bool.or_eq_true,decide_eq_true_eq,Bool.not_eq_true']
 refine and_congr_right fun _=>or_congr_right ?_
 rw [ne_eq,Vp,Bool.not_eq_true]
end Go.Proofs.YtjimggclhlnfbaaGreatDoor
namespace Go.Proofs.YtjimggclhlnfbaaGreatDoor
open Go.RowKit
def InvD {α:Type} (D0:Nat->Nat->Prop) (n:Nat) (pv:α->PV) (P:α->Prop) (W:World) (u:Value) (a:α):Prop:=
 P a/\∃ D:Nat->Nat->Prop,GL D W/\(∀ b o,D b o->b<W.heap.size/\b≠n/\b≠n+2/\b≠n+3)/\(∀ b o,D b o->D0 b o\/n<=b)/\(∀ b o,D0 b o->D b o)/\Dat D W u (pv a)
section
variable {α:Type} {D0:Nat->Nat->Prop} {pv:α->PV} {P:α->Prop} {w W A B:World} {u:Value} {a:α}
theorem InvD.start {u0:Value} (h0:Dat D0 w u0 (.sl [] .sh)) (hG:GL D0 w) (hD:∀ b o,D0 b o->b<w.heap.size) (hb:Below w.heap.size w W) (hP:P a) (hp:pv a=.sl [] .sh):InvD D0 w.heap.size pv P W u0 a:=by
 have hw:∀ b o x,D0 b o->w.cell? ⟨b,o,none⟩=some x->W.cell? ⟨b,o,none⟩=some x:=fun b o x hd hx=>(hb.cell (p:=⟨b,o,none⟩) (hD b o hd)).trans hx
 refine⟨hP,D0,hG.mono (fun _ _ h=>h) hw,fun b o h=>?_,fun _ _ h=>.inl h,fun _ _ h=>h,?_⟩
 ·have:=hD b o h
  have:=hb.size
  exact⟨by omega,by omega,by omega,by omega⟩
 ·rw [hp]
  exact h0.mono (fun _ _ h=>h) hw
theorem InvD.shape {n:Nat} (h:InvD D0 n pv P W u a) (hp:∃ es,pv a=.sl es .sh):∃ ad n c,u=.slice ad n c:=by
 obtain⟨_,D,_,_,_,_,hd⟩:=h
 obtain⟨es,e⟩:=hp
 rw [e] at hd
 obtain⟨s,rfl,_⟩:=kH hd
 exact⟨_,_,_,rfl⟩
theorem InvD.keep {n:Nat} (h:InvD D0 n pv P A u a) (hk:Keep (fun k=>k=n\/k=n+2\/k=n+3) A B):InvD D0 n pv P B u a:=by
 obtain⟨hP,D,h1,h2,h3,h4,h5⟩:=h
 have hw:∀ b o x,D b o->A.cell? ⟨b,o,none⟩=some x->B.cell? ⟨b,o,none⟩=some x:=fun b o x hd hx=>
  (World.cell?_of_block (a:=⟨b,o,none⟩) (hk.block b (h2 b o hd).1 (by have:=h2 b o hd;omega))).trans hx
 exact⟨hP,D,h1.mono (fun _ _ h=>h) hw,fun b o hd=>⟨Nat.lt_of_lt_of_le (h2 b o hd).1 hk.size,(h2 b o hd).2⟩,h3,h4,h5.mono (fun _ _ h=>h) hw⟩
theorem zhD {D:Nat->Nat->Prop} {f:Fv} {g:Fg} (h0:Dat D w (sv f.1) (rg g.items)) (h1:Dat D w (sv f.2) (vp g.vec)):Dat D w (.agg #[sv f.1,sv f.2]) (fp g):=by
 refine .agg _ _ rfl (fun i hi=>?_) fun i p hp=>?_
 ·match i,hi with
  | 0,_=>rfl
  | 1,_=>rfl
 ·match i,hp with
  | 0,hp=>cases hp;exact h0
  | 1,hp=>cases hp;exact h1
  | i+2,hp=>simp [fc] at hp
theorem InvD.step {F1:FuncId} {i:Nat} {f:Fv} {g:Fg} {a':α} (h:InvD D0 w.heap.size pv P W u a) (hD:∀ b o,D0 b o->b<w.heap.size) (hb:Below w.heap.size w W) (hs:w.heap.size+4<=W.heap.size) (h0:Dat D0 w (sv f.1) (rg g.items)) (h1:Dat D0 w (sv f.2) (vp g.vec))
 (hc:Cn Tryz.prog F1 [pv a,.v (.int .i64 i),fp g] (pv a')) (hP:P a') :
 Calls Tryz.prog F1 #[u,.int .i64 (i:Nat),.agg #[sv f.1,sv f.2]] W fun e W'=>∃ u',e=.returned u'/\InvD D0 w.heap.size pv P W' u' a'/\Keep (zaB (w.heap.size+4) W) W W':=by
 obtain⟨_,D,g1,g2,g3,g4,g5⟩:=h
 have hw:∀ b o x,D0 b o->w.cell? ⟨b,o,none⟩=some x->W.cell? ⟨b,o,none⟩=some x:=fun b o x hd hx=>(hb.cell (p:=⟨b,o,none⟩) (hD b o hd)).trans hx
 refine(jP hc g1 (fun b o h=>(g2 b o h).1) rfl (fun j p hp=>?_)).mono ?_
 ·match j,hp with
  | 0,hp=>cases hp;exact g5
  | 1,hp=>cases hp;exact .v _
  | 2,hp=>cases hp;exact(zhD h0 h1).mono g4 hw
  | j+3,hp=>simp at hp
 ·rintro e W' ⟨v,rfl,hb',hd⟩
  refine⟨v,rfl,⟨hP,_,g1.mono (fun _ _ h=>.inl h) fun b o x hd hx=>(hb'.cell (p:=⟨b,o,none⟩) (g2 b o hd).1).trans hx,fun b o h=>?_,fun b o h=>?_,fun b o h=>.inl (g4 b o h),hd⟩,Keep.of_below' hb' (Nat.le_refl _)⟩
  ·rcases h with h | h
   ·exact⟨Nat.lt_of_lt_of_le (g2 b o h).1 hb'.size,(g2 b o h).2⟩
   ·exact⟨h.2,by omega,by omega,by omega⟩
  ·rcases h with h | h
   ·exact g3 b o h
   ·exact .inr (by omega)
theorem InvD.done (h:InvD D0 w.heap.size pv P W u a):Dat (fun b o=>D0 b o\/(w.heap.size<=b/\b<W.heap.size)) W u (pv a):=by
 obtain⟨_,D,g1,g2,g3,g4,g5⟩:=h
 exact g5.mono (fun b o h=>(g3 b o h).imp id fun h'=>⟨h',(g2 b o h).1⟩) fun _ _ _ _ h=>h
end
theorem zcx {D:Nat->Nat->Prop} {w:World} {x:Value} {p:PV} (h:Dat D w x (.cp [p] 0)):∃ b o y,x=.pointer (some ⟨b,o,none⟩)/\D b o/\w.cell? ⟨b,o,none⟩=some y/\Dat D w y p:=by
 obtain⟨b,off,f,e,h1,h2⟩:=(Rel.dat (ρ:=fun _=>0) (nb:=0) h).inv_cp
 have:=h1 0 (by simp)
 exact⟨b,off,f 0,e,by simpa using this.1,by simpa using this.2.1,h2 0 p rfl⟩
theorem zbU {D:Nat->Nat->Prop} {w:World} {x:Value} {k:List Fg} {i:Nat} (h:Dat D w x (V8 k i)):∃ bk ok bi oi v,x=.func (.func 115) #[] #[.pointer (some ⟨bk,ok,none⟩),.pointer (some ⟨bi,oi,none⟩)]/\D bk ok/\D bi oi/\w.cell? ⟨bk,ok,none⟩=some v/\w.cell? ⟨bi,oi,none⟩=some (.int .u64 (i:Nat))/\Dat D w v (kp k):=by
 unfold V8 at h
 cases h with
 | fn f va vb fs cs h1 h2 h3 h4=>
   rw [Array.size_eq_zero_iff.1 h1]
   obtain⟨l⟩:=vb
   match l,h2 with
   | [y,z],_=>
     obtain⟨bk,ok,v,e1,d1,c1,q1⟩:=zcx (h4 0 _ rfl)
     obtain⟨bi,oi,u,e2,d2,c2,q2⟩:=zcx (h4 1 _ rfl)
     rw [q2.v_inv] at c2
     simp at e1 e2
     subst e1 e2
     exact⟨bk,ok,bi,oi,v,rfl,d1,d2,c1,c2,q1⟩
theorem zfQ {D:Nat->Nat->Prop} {w:World} {x:Value} (h:Dat D w x (.sl [] .sh)):∃ ad c,x=.slice ad 0 c:=by
 obtain⟨⟨a,n,c⟩,rfl,e⟩:=kH h
 simp only [List.length_nil] at e
 subst e
 exact⟨a,c,rfl⟩
def QW (k:List Fg):Prop:=k.length<=1152921504606846976/\∀ f ∈ k,f.items.length<=1152921504606846976/\f.vec.length<=1152921504606846976/\∀ e ∈ f.vec,e.holes.length<=1152921504606846976
theorem YM {D:Nat->Nat->Prop} {w:World} {k:List Fg} {i bk ok bi oi:Nat} {a:Option Addr} {cap:Nat} {fs:List Fv} (hr:RightK k) (hz:QW k) (hG:GL D w) (hD:∀ b o,D b o->b<w.heap.size) (d1:D bk ok) (d2:D bi oi) (c1:w.cell? ⟨bk,ok,none⟩=some (.slice a k.length cap)) (c2:w.cell? ⟨bi,oi,none⟩=some (.int .u64 (i:Nat)))
 (hl:fs.length=k.length) (hrow:zeF w.heap.size w a cap fs) (hfs:∀ j (h:j<fs.length),Dat D w (sv fs[j].1) (rg (k[j]'(hl ▸ h)).items)/\Dat D w (sv fs[j].2) (vp (k[j]'(hl ▸ h)).vec)) {W:World} (hb:Below w.heap.size w W) :
 v7 Tryz.prog 115 #[.pointer (some ⟨bk,ok,none⟩),.pointer (some ⟨bi,oi,none⟩)] Y4 (fun _=>False) (PtF w.heap.size bk bi) (wl (fun j=>mem (k.getD j default).items i) 0 fs) W:=by
 have hw:∀ b o x,D b o->w.cell? ⟨b,o,none⟩=some x->W.cell? ⟨b,o,none⟩=some x:=fun b o x hd hx=>(hb.cell (p:=⟨b,o,none⟩) (hD b o hd)).trans hx
 refine zew fs _ a cap bk ok bi oi w.heap.size i W ?_ (by rw [hl];exact hw _ _ _ d1 c1) (hw _ _ _ d2 c2) hb.size fun w' j hj hlow hsz=>?_
 ·obtain⟨h1,h2,h3⟩:=hrow
  refine⟨h1,h2,fun hne=>?_⟩
  obtain⟨b,off,e1,e2,e3⟩:=h3 hne
  exact⟨b,off,e1,e2,fun j hj=>⟨(hb.cell (p:=⟨b,off+j * 2,none⟩) e2).trans (e3 j hj).1,(hb.cell (p:=⟨b,off+j * 2+1,none⟩) e2).trans (e3 j hj).2⟩⟩
 ·have hw':∀ b o x,D b o->w.cell? ⟨b,o,none⟩=some x->w'.cell? ⟨b,o,none⟩=some x:=fun b o x hd hx=>(World.cell?_of_block (a:=⟨b,o,none⟩) (hlow b (hD b o hd))).trans (hw b o x hd hx)
  have hj':j<k.length:=hl ▸ hj
  have hm:=List.getElem_mem hj'
  have e:k.getD j default=k[j]:=by rw [List.getD_eq_getElem?_getD,List.getElem?_eq_getElem hj'];rfl
  simp only [e]
  refine(jP (ziQ k[j].items i (hr _ hm).1 (hz.2 _ hm).1) (hG.mono (fun _ _ h=>h) hw') (fun b o h=>Nat.lt_of_lt_of_le (hD b o h) hsz) rfl (fun t p hp=>?_)).mono ?_
  ·match t,hp with
   | 0,hp=>cases hp;exact(hfs j hj).1.mono (fun _ _ h=>h) hw'
   | 1,hp=>cases hp;exact .v _
   | t+2,hp=>simp at hp
  ·rintro e W' ⟨v,rfl,hb',hd⟩
   rw [hd.v_inv]
   exact⟨rfl,hb'⟩
def is (l:List Nat):PV:=.sl (l.map fun x=>[.v (.int .i64 (x:Nat))]) .sh
attribute [go_sem] is
theorem zfl {k:List Fg} {j:Nat} (h:j<k.length):k.getD j default=k[j]:=by rw [List.getD_eq_getElem?_getD,List.getElem?_eq_getElem h];rfl
theorem zf9 {α:Type} {pre xs:List α} {p:α} (h:pre++[p] <+: xs):p ∈ xs:=h.subset (by simp)
theorem zfk {C:Nat->List Nat} {R:List Nat} (k:List Fg) (i:Nat) (hk:IK C R k) (ok:OkC C R) (hr:RightK k) (hs:∀ f ∈ k,SmV f.vec) (hz:QW k) :
 Cn Tryz.prog 67 [V8 k i,.sl [] .sh,.fn (.func 69) [] []] (vp (qc k i)):=by
 refine yZ rfl (enters_of Tryz.func67 (by kernel_rfl) rfl) fun D w vs hG hD hsz hd=>?_
 obtain⟨bk,ok',bi,oi,v,e0,d1,d2,c1,c2,hkv⟩:=zbU (hd 0 _ rfl)
 obtain⟨a,cap,fs,rfl,hl,hrow,hfs⟩:=kX hkv hD
 have hn0:=hd 1 _ rfl
 obtain⟨ad0,c0',e1⟩:=zfQ hn0
 rw [e1] at hn0
 rw [zjx hsz,e0,e1,zcA (hd 2 _ rfl)]
 refine(X8 115 _ bk bi _ w ad0 c0' (enters_of Tryz.func115 (by kernel_rfl) rfl) (fun W hb=>YM hr hz hG hD d1 d2 c1 c2 hl hrow hfs hb) (hD _ _ d1) (hD _ _ d2)
  (InvD D w.heap.size vp (WV C R)) (fun o p=>ks zn o (k.getD p.1 default).vec) [] (fun W hb=>InvD.start hn0 hG hD hb WV.nil rfl) (fun W u a h=>h.shape ⟨_,rfl⟩) (fun A B u a h hk=>h.keep hk) fun W u pre p hpre hs4 hb h=>?_).mono ?_
 ·obtain⟨hp1,_,hp3,_⟩:=zez (zf9 hpre)
  have hj:p.1<fs.length:=by simpa using hp1
  have hj':p.1<k.length:=hl ▸ hj
  have hm:=List.getElem_mem hj'
  have q:=hfs p.1 hj
  have e:p.2=fs[p.1]:=by rw [hp3];simp
  rw [zfl hj',e]
  exact h.step hD hb hs4 q.1 q.2 (zjy _ p.1 k[p.1] (h.1.smv ok) (hs _ hm)) (h.1.iv.lat fU0 (hk _ hm))
 ·rintro e w' ⟨u,rfl,hI,hb⟩
  have h:=hI.done
  rw [Yp hl i (fun o _ f=>ks zn o f.vec) []] at h
  exact⟨u,rfl,hb,h⟩
theorem zdx {D:Nat->Nat->Prop} {base:Nat} {w:World} {v:Value} {l:List Nat} (h:OwnI base w v l) (hD:∀ b o,base<=b->b<w.heap.size->D b o):Dat D w v (is l):=by
 unfold is
 have hlen:(l.map fun x=>[PV.v (.int .i64 (x:Nat))]).length=l.length:=by simp
 rcases id h.2 with⟨rfl,h0⟩ | ⟨g,cap,cur,rfl,hg,hh,hn,hc,_⟩
 ·obtain rfl:l=[]:=List.length_eq_zero_iff.1 h0
  exact .sl none 0 1 [] .sh 0 0 (fun _=>undef) (by simp) (fun h=>by cases h) (by unfold maxLen;omega) (fun h=>absurd rfl h) (fun i e h=>by simp at h) (fun j h=>by simp at h) (fun i e j p h=>by simp at h)
 ·rw [<-hlen]
  refine .sl _ cap 1 _ .sh g 0 (fun j=>.int .i64 (l.getD j 0:Nat)) (by simpa using hn) (fun h=>by cases h) hc (fun _=>rfl) (fun i e h=>?_) (fun j hj=>?_) (fun i e j p he hp=>?_)
  ·simp only [List.getElem?_map,Option.map_eq_some_iff] at h
   obtain⟨s,_,rfl⟩:=h
   rfl
  ·simp only [List.length_map,Nat.mul_one] at hj
   refine⟨hD _ _ hg (Array.getElem?_eq_some_iff.1 hh).1,?_,rfl⟩
   rw [Nat.zero_add,h.cellAt _ (by simpa using hj)]
   simp [hj]
  ·have hi:i<l.length:=by have:=(List.getElem?_eq_some_iff.1 he).1;simpa using this
   rw [List.getElem?_map,List.getElem?_eq_getElem hi] at he
   cases he
   match j,hp with
   | 0,hp=>cases hp;simp [hi];exact .v _
   | j+1,hp=>simp at hp
theorem zbj (l:List (Nat × Fv)):∀ a:List Nat,l.foldl (fun o p=>o++[p.1]) a=a++l.map Prod.fst:=by
 induction l with
 | nil=>intro a;simp
 | cons p l ih=>intro a;rw [List.foldl_cons,ih];simp
theorem JV (l:List (Nat × Fg)):∀ a:List Nat,l.foldl (fun o p=>o++[p.1]) a=a++l.map Prod.fst:=by
 induction l with
 | nil=>intro a;simp
 | cons p l ih=>intro a;rw [List.foldl_cons,ih];simp
theorem zey (hit:Nat->Bool):∀(n:Nat) (l:List Fv),(wl hit n l).length<=l.length
 | _,[]=>Nat.le_refl _
 | n,f::l=>by
   have:=zey hit (n+1) l
   unfold wl
   split<;>simp<;>omega
theorem K9 (k:List Fg) (i:Nat) (hr:RightK k) (hz:QW k) (hkl:k.length<=1073741824):Cn Tryz.prog 62 [kp k,.v (.int .u64 i)] (is (zU k i)):=by
 refine yZ rfl (enters_of Tryz.func62 (by kernel_rfl) rfl) fun D w vs hG hD hsz hd=>?_
 obtain⟨a,cap,fs,e0,hl,hrow,hfs⟩:=kX (hd 0 _ rfl) hD
 rw [zeJ hsz,e0,(hd 1 _ rfl).v_inv]
 obtain⟨w1,hw1⟩:∃ w1,(w.alloc (.cells #[.slice a k.length cap] 23)).alloc (.cells #[.int .u64 (i:Nat)] 24)=w1:=⟨_,rfl⟩
 have hs1:w1.heap.size=w.heap.size+2:=by rw [<-hw1];simp
 have b1:Below w.heap.size w w1:=by rw [<-hw1];exact((Below.refl _ _).alloc (Nat.le_refl _) _).alloc (by simp) _
 have x1:Boxed w1 w.heap.size 23 (.slice a k.length cap):=by rw [<-hw1];exact(Boxed.new w _ _).alloc _
 have x2:Boxed w1 (w.heap.size+1) 24 (.int .u64 (i:Nat)):=by rw [<-hw1];have:=Boxed.new (w.alloc (.cells #[.slice a k.length cap] 23)) 24 (.int .u64 (i:Nat));rw [World.size_alloc] at this;exact this
 have hwc:∀ b o x,D b o->w.cell? ⟨b,o,none⟩=some x->w1.cell? ⟨b,o,none⟩=some x:=fun b o x hd hx=>(b1.cell (p:=⟨b,o,none⟩) (hD b o hd)).trans hx
 obtain⟨E,hE⟩:∃ E:Nat->Nat->Prop,E=fun b o=>D b o\/(w.heap.size<=b/\b<w1.heap.size):=⟨_,rfl⟩
 have hEb:∀ b o,E b o->b<w1.heap.size:=fun b o h=>by rw [hE] at h;exact h.elim (fun h=>by have:=hD b o h;omega) And.right
 have hfold:Calls Tryz.prog 111 #[.func (.func 115) #[] #[.pointer (some ⟨w.heap.size,0,none⟩),.pointer (some ⟨w.heap.size+1,0,none⟩)],.slice none 0 0,.func (.func 112) #[] #[]] w1 fun e w'=>∃ u,e=.returned u/\OwnI (w1.heap.size+4) w' u (zU k i)/\Below w1.heap.size w1 w':=by
  refine(X7 115 _ w.heap.size (w.heap.size+1) _ w1 none 0 (enters_of Tryz.func115 (by kernel_rfl) rfl) (fun W hb=>YM (D:=E) (a:=a) (cap:=cap) (fs:=fs) hr hz (hG.mono (fun b o h=>by rw [hE];exact .inl h) hwc) hEb (by rw [hE];exact .inr (by omega)) (by rw [hE];exact .inr (by omega)) x1.cell x2.cell hl ?_ (fun j hj=>⟨(hfs j hj).1.mono (fun b o h=>by rw [hE];exact .inl h) hwc,(hfs j hj).2.mono (fun b o h=>by rw [hE];exact .inl h) hwc⟩) hb) (by omega) (by omega)
   (fun W u l=>OwnI (w1.heap.size+4) W u l) (fun o p=>o++[p.1]) [] (fun W _=>OwnI.nil _ _) (fun W u a h=>h.shape) (fun A B u a h hk=>h.keep hk fun g hg _=>by omega) fun W u pre p hpre hs4 hb h=>?_).mono ?_
  ·obtain⟨h1,h2,h3⟩:=hrow
   refine⟨h1,h2,fun hne=>?_⟩
   obtain⟨b,off,e1,e2,e3⟩:=h3 hne
   exact⟨b,off,e1,by omega,fun j hj=>⟨(b1.cell (p:=⟨b,off+j * 2,none⟩) e2).trans (e3 j hj).1,(b1.cell (p:=⟨b,off+j * 2+1,none⟩) e2).trans (e3 j hj).2⟩⟩
  ·have hpl:pre.length<=k.length:=by
    have h1:=hpre.length_le
    have h2:=zey (fun j=>mem (k.getD j default).items i) 0 fs
    simp only [List.length_append,List.length_cons,List.length_nil] at h1
    omega
   refine JY (w1.heap.size+4) W u _ p.1 _ _ h (by omega) ?_
   rw [zbj]
   simp
   omega
  ·rintro e w' ⟨u,rfl,hI,hb⟩
   rw [Yp hl i (fun o j _=>o++[j]) [],JV,List.nil_append] at hI
   exact⟨u,rfl,hI,hb⟩
 have HF:=Lib.hid hfold
 have HB:=Lib.hid b1
 clear hfold b1 x1 x2 hwc hE hEb hrow hfs hd hG hD
 go_enter Tryz.func62,Tryz.ntmps62
 go_wp2_with (first
  | (go_at_call 68;refine(zex _ _ _ _ _).mono ?_;rintro e w' ⟨rfl,rfl⟩;rw [hw1])
  | (go_at_call 111;refine HF.out.mono ?_;rintro e w2 ⟨u,rfl,ho,hb2⟩;obtain⟨au,nu,cu,rfl⟩:=ho.shape))
 go_ret
 exact⟨_,rfl,HB.out.trans (hb2.mono (by omega)),zdx ho fun b o h1 h2=>.inr (by omega)⟩
theorem zgU {C:Nat->List Nat} {R:List Nat} (k:List Fg) (i:Nat) (hk:IK C R k) (ok:OkC C R) (hr:RightK k) (hs:∀ f ∈ k,SmV f.vec) (hz:QW k):Cn Tryz.prog 21 [kp k,.v (.int .u64 i)] (vp (qc k i)):=by
 refine zt Tryz.func21 2 ?_
 refine pw ?_
 refine .c (zfB k i) ?_
 exact .d (zfk k i hk ok hr hs hz)
theorem zc8 (k:List Fg) (hb:BdK k):Cn Tryz.prog 16 [kp k] (.v (.bool (vx k))):=by
 have hl:=hb.2
 refine zt Tryz.func16 1 ?_
 refine pw ?_
 refine pLoop.go (fun j=>j<=k.length/\vx k=((k.drop j).all (fun f=>decide (f.items.length<=20) && JF f.vec) && decide (k.length<=12))) (fun j=>[(3,.v (.int .i64 (j:Nat)))]) (fun _=>[]) (fun j=>k.length - j) 0 [3] ?_ ?_ ?_
 ·exact⟨Nat.zero_le _,rfl⟩
 ·exact pd
 ·rintro j ⟨hj,hm⟩
  refine pw ?_
  refine .i ?_ ?_<;>intro h<;>(try simp only [zb] at h)<;>first | refine pw ?_ | exact pd
  ·rw [List.drop_eq_getElem_cons h,List.all_cons] at hm
   have hbj:=hb.1 _ (List.getElem_mem h)
   have hbi:=hbj.2.2.1
   refine pw ?_
   refine .i ?_ ?_<;>intro h2<;>(try simp only [zb] at h2)<;>first | refine pw ?_ | exact pd
   ·rw [hm,decide_eq_false (by omega)]
    rfl
   ·rw [decide_eq_true (by omega),Bool.true_and] at hm
    refine .c (zj5 k[j].vec hbj.2.2.2) ?_
    refine .i ?_ ?_<;>intro h3<;>(try simp only [zb] at h3)<;>first | refine pw ?_ | exact pd
    ·rw [hm,h3]
     rfl
    ·rw [h3,Bool.true_and] at hm
     exact⟨j+1,⟨h,hm⟩,by omega,rfl⟩
  ·rw [hm,List.drop_of_length_le (by omega)]
   simp
   omega
theorem VS (k:List Fg) (hb:BdK k) (hz:QW k):Cn Tryz.prog 45 [kp k] (.tup [.v (.int .i64 (ckK k).1),.v (.int .i64 (ckK k).2)]):=by
 have hl:=hz.1
 refine zt Tryz.func45 1 ?_
 refine pw ?_
 refine pLoop.go (fun j=>j<=k.length/\ckK k=hkK j (k.drop j)) (fun j=>[(4,.v (.int .i64 (j:Nat)))]) (fun _=>[]) (fun j=>k.length - j) 0 [4] ?_ ?_ ?_
 ·exact⟨Nat.zero_le _,rfl⟩
 ·exact pd
 ·rintro j ⟨hj,hm⟩
  refine pw ?_
  refine .i ?_ ?_<;>intro h<;>(try simp only [zb] at h)<;>first | refine pw ?_ | exact pd
  ·rw [List.drop_eq_getElem_cons h,hkK] at hm
   have hbj:=hb.1 _ (List.getElem_mem h)
   have hzj:=hz.2 _ (List.getElem_mem h)
   refine pw ?_
   refine .c (XO k[j].items hzj.1 hbj.1) ?_
   refine .i ?_ ?_<;>intro h2<;>(try simp only [zb] at h2)<;>first | refine pw ?_ | exact pd
   ·rw [if_neg (by omega)] at hm
    refine .c (Kb k[j].vec hbj.2.1 hzj.2.1 hzj.2.2) ?_
    refine .i ?_ ?_<;>intro h3<;>(try simp only [zb] at h3)<;>first | refine pw ?_ | exact pd
    ·rw [if_pos (by omega)] at hm
     rw [hm]
    ·rw [if_neg (by omega)] at hm
     exact⟨j+1,⟨h,hm⟩,by omega,rfl⟩
   ·rw [if_pos (by omega)] at hm
    refine .i ?_ ?_<;>intro h3<;>(try simp only [zb] at h3)<;>first | refine pw ?_ | exact pd
    ·rw [hm]
    ·exact absurd h3 (by omega)
  ·rw [hm,List.drop_of_length_le (by omega)]
   rfl
theorem Vm (k:List Fg) (hb:BdK k) (hz:QW k):Cn Tryz.prog 20 [kp k] (.v (.bool (decide ((ckK k).1=0)))):=by
 refine zt Tryz.func20 1 ?_
 refine pw ?_
 exact .d (VS k hb hz)
theorem Vh (k:List Fg) (hb:BdK k) (hz:QW k):Cn Tryz.prog 59 [kp k] (jS (ckK k).1 (ckK k).2):=by
 have hl:=hz.1
 refine zt Tryz.func59 1 ?_
 refine pw ?_
 refine pLoop.go (fun j=>j<=k.length/\ckK k=hkK j (k.drop j)) (fun j=>[(9,.v (.int .i64 (j:Nat)))]) (fun _=>[]) (fun j=>k.length - j) 0 [9] ?_ ?_ ?_
 ·exact⟨Nat.zero_le _,rfl⟩
 ·exact pd
 ·rintro j ⟨hj,hm⟩
  refine pw ?_
  refine .i ?_ ?_<;>intro h<;>(try simp only [zb] at h)<;>first | refine pw ?_ | exact pd
  ·rw [List.drop_eq_getElem_cons h,hkK] at hm
   have hbj:=hb.1 _ (List.getElem_mem h)
   have hzj:=hz.2 _ (List.getElem_mem h)
   have hco1:=Ju (Zl k[j].items).1 (Zl k[j].items).2
   have hco2:=Ju (jx k[j].vec).1 (jx k[j].vec).2
   refine pw ?_
   refine .rd (VO k[j].items hbj.1 hzj.1 (.inr (KL 2))) rfl ?_
   by_cases h1:(Zl k[j].items).1=0
   ·rw [yk h1]
    rw [if_neg (by omega)] at hm
    refine pw ?_
    refine .rd (zes k[j].vec hbj.2.1 hzj.2.1 hzj.2.2) rfl ?_
    by_cases h2:(jx k[j].vec).1=0
    ·rw [yk h2]
     rw [if_neg (by omega)] at hm
     refine pw ?_
     exact⟨j+1,⟨h,hm⟩,by omega,rfl⟩
    ·rw [if_pos h2] at hm
     rw [hm]
     rw [vu h2] at hco2 ⊢
     refine pw ?_
     (first | refine .c (hco2) ?_ | refine .o (hco2) ?_)
     refine .c (jT (jx k[j].vec).1 j) ?_
     exact ym _ _
   ·rw [if_pos h1] at hm
    rw [hm]
    rw [vu h1] at hco1 ⊢
    refine pw ?_
    (first | refine .c (hco1) ?_ | refine .o (hco1) ?_)
    refine .c (jT (Zl k[j].items).1 j) ?_
    exact ym _ _
  ·rw [hm,List.drop_of_length_le (by omega)]
   exact .eq _ rfl
theorem zfq (a b:List Fg) (hz:QW a):Cn Tryz.prog 19 [kp a,kp b] (.v (.bool (decide (a=b)))):=by
 have hl:=hz.1
 refine zt Tryz.func19 2 ?_
 refine pw ?_
 refine .i ?_ ?_<;>intro h0<;>(try simp only [zb] at h0)<;>first | refine pw ?_ | exact pd
 ·symm
  rw [decide_eq_false_iff_not]
  rintro rfl
  exact h0 rfl
 ·have h0':a.length=b.length:=by simpa using h0
  clear h0
  refine pLoop.go (fun k=>k<=a.length/\(a=b ↔ a.drop k=b.drop k)) (fun k=>[(5,.v (.int .i64 (k:Nat)))]) (fun _=>[]) (fun k=>a.length - k) 0 [5] ?_ ?_ ?_
  ·exact⟨Nat.zero_le _,Iff.rfl⟩
  ·exact pd
  ·rintro k ⟨hk,hm⟩
   refine pw ?_
   refine .i ?_ ?_<;>intro h<;>(try simp only [zb] at h)<;>first | refine pw ?_ | exact pd
   ·have hk':k<b.length:=by omega
    have hzj:=hz.2 _ (List.getElem_mem h)
    rw [List.drop_eq_getElem_cons h,List.drop_eq_getElem_cons hk',List.cons.injEq] at hm
    refine pw ?_
    refine .c (zgI a[k].items b[k].items hzj.1) ?_
    refine .i ?_ ?_<;>intro e<;>(try simp only [zb] at e)<;>first | refine pw ?_ | exact pd
    ·symm
     rw [decide_eq_false_iff_not]
     intro he
     exact e (congrArg Fg.items (hm.1 he).1)
    ·refine .c (zji a[k].vec b[k].vec hzj.2.1 hzj.2.2) ?_
     refine .i ?_ ?_<;>intro e2<;>(try simp only [zb] at e2)<;>first | refine pw ?_ | exact pd
     ·symm
      rw [decide_eq_false_iff_not]
      intro he
      exact e2 (congrArg Fg.vec (hm.1 he).1)
     ·refine⟨k+1,⟨h,?_⟩,by omega,rfl⟩
      rw [hm]
      exact⟨fun h=>h.2,fun h=>⟨Fg.ext' e e2,h⟩⟩
   ·rw [eq_comm,decide_eq_true_eq,hm,List.drop_of_length_le (by omega),List.drop_of_length_le (by omega)]
theorem zjX (a b:List Nat) (ha:a.length<=1152921504606846976):Cn Tryz.prog 61 [is a,is b] (.v (.bool (decide (a=b)))):=by
 refine zt Tryz.func61 2 ?_
 refine pw ?_
 refine .i ?_ ?_<;>intro h0<;>(try simp only [zb] at h0)<;>first | refine pw ?_ | exact pd
 ·symm
  rw [decide_eq_false_iff_not]
  rintro rfl
  exact h0 rfl
 ·have h0':a.length=b.length:=by simpa using h0
  clear h0
  refine pLoop.go (fun k=>k<=a.length/\(a=b ↔ a.drop k=b.drop k)) (fun k=>[(13,.v (.int .i64 (k:Nat)))]) (fun _=>[]) (fun k=>a.length - k) 0 [13] ?_ ?_ ?_
  ·exact⟨Nat.zero_le _,Iff.rfl⟩
  ·exact pd
  ·rintro k ⟨hk,hm⟩
   refine pw ?_
   refine .i ?_ ?_<;>intro h<;>(try simp only [zb] at h)<;>first | refine pw ?_ | exact pd
   ·have hk':k<b.length:=by omega
    rw [List.drop_eq_getElem_cons h,List.drop_eq_getElem_cons hk',List.cons.injEq] at hm
    refine pw ?_
    refine .i ?_ ?_<;>intro e<;>(try simp only [zb] at e)<;>first | refine pw ?_ | exact pd
    ·symm
     rw [decide_eq_false_iff_not]
     intro he
     exact absurd (hm.1 he).1 (by omega)
    ·refine⟨k+1,⟨h,?_⟩,by omega,rfl⟩
     rw [hm]
     have e:a[k]=b[k]:=by omega
     exact⟨fun h=>h.2,fun h=>⟨e,h⟩⟩
   ·rw [eq_comm,decide_eq_true_eq,hm,List.drop_of_length_le (by omega),List.drop_of_length_le (by omega)]
end Go.Proofs.YtjimggclhlnfbaaGreatDoor
namespace Go.Proofs.YtjimggclhlnfbaaGreatDoor
open Go.RowKit Go.Maps
attribute [-go_sem] z7
def MemV (C:Nat->Nat->Prop) (l:List Nat) (u:Value) (w:World):Prop:=∃ D:Nat->Nat->Prop,(∀ b o,C b o->D b o)/\(∀ b o,D b o->b<w.heap.size)/\Dat D w u (is l)
theorem MemV.stab {C:Nat->Nat->Prop} {l:List Nat} (u:Value) (w w':World) (h:MemV C l u w) (hk:Keep qe w w'):MemV C l u w':=by
 obtain⟨D,h1,h2,h3⟩:=h
 exact⟨D,h1,fun b o hd=>Nat.lt_of_lt_of_le (h2 b o hd) hk.size,h3.mono (fun _ _ h=>h) fun b o x hd hx=>(World.cell?_of_block (a:=⟨b,o,none⟩) (hk.block b (h2 b o hd) id)).trans hx⟩
theorem Xg {C:Nat->Nat->Prop} {w0 w:World} {k:List Fg} {v:Value} (x:Nat) (hr:RightK k) (hz:QW k) (hkl:k.length<=1073741824) (hd:Dat C w0 v (kp k)) (hC:∀ b o,C b o->b<w0.heap.size) (hG:GL C w0) (hb:Below w0.heap.size w0 w) :
 Calls Tryz.prog 62 #[v,.int .u64 (x:Nat)] w fun e w'=>∃ u,e=.returned u/\Below w.heap.size w w'/\MemV C (zU k x) u w':=by
 have hw:∀ b o y,C b o->w0.cell? ⟨b,o,none⟩=some y->w.cell? ⟨b,o,none⟩=some y:=fun b o y hc hy=>(World.cell?_of_block (a:=⟨b,o,none⟩) (hb.block b (hC b o hc))).trans hy
 have hC':∀ b o,C b o->b<w.heap.size:=fun b o h=>Nat.lt_of_lt_of_le (hC b o h) hb.size
 refine(jP (K9 k x hr hz hkl) (hG.mono (fun _ _ h=>h) hw) hC' (vs:=#[v,.int .u64 (x:Nat)]) rfl (fun i p hp=>by
  match i,hp with
  | 0,hp=>cases hp;exact hd.mono (fun _ _ h=>h) hw
  | 1,hp=>cases hp;exact .v _
  | i+2,hp=>simp at hp)).mono ?_
 rintro e w' ⟨u,rfl,hb',hd'⟩
 exact⟨u,rfl,hb',_,fun b o h=>.inl h,fun b o h=>h.elim (fun h=>Nat.lt_of_lt_of_le (hC' b o h) hb'.size) And.right,hd'⟩
theorem zgP {C:Nat->Nat->Prop} {w0 w:World} {a b:List Nat} {u v:Value} (r:Bool) (hr:decide (a=b)=r) (ha:a.length<=1152921504606846976) (hC:∀ b o,C b o->b<w0.heap.size) (hG:GL C w0) (hb:Below w0.heap.size w0 w) (hu:MemV C a u w) (hv:MemV C b v w) :
 Calls Tryz.prog 61 #[u,v] w fun e w'=>e=.returned (.bool r)/\Below w.heap.size w w':=by
 subst hr
 obtain⟨D1,p1,p2,p3⟩:=hu
 obtain⟨D2,q1,q2,q3⟩:=hv
 have hw:∀ b o y,C b o->w0.cell? ⟨b,o,none⟩=some y->w.cell? ⟨b,o,none⟩=some y:=fun b o y hc hy=>(World.cell?_of_block (a:=⟨b,o,none⟩) (hb.block b (hC b o hc))).trans hy
 refine(jP (D:=fun b o=>D1 b o\/D2 b o) (zjX a b ha) (hG.mono (fun b o h=>.inl (p1 b o h)) hw) (fun b o h=>h.elim (p2 b o) (q2 b o)) (vs:=#[u,v]) rfl (fun i p hp=>by
  match i,hp with
  | 0,hp=>cases hp;exact p3.mono (fun _ _ h=>.inl h) fun _ _ _ _ h=>h
  | 1,hp=>cases hp;exact q3.mono (fun _ _ h=>.inr h) fun _ _ _ _ h=>h
  | i+2,hp=>simp at hp)).mono ?_
 rintro e w' ⟨r,rfl,hb',hd'⟩
 rw [hd'.v_inv]
 exact⟨rfl,hb'⟩
theorem XJ {k:List Fg} (i:Nat):(CI (k.take i)).length<=(CI k).length:=by
 have:CI k=CI (k.take i)++CI (k.drop i):=by unfold CI;rw [<-List.flatMap_append,List.take_append_drop]
 rw [this,List.length_append];omega
theorem Q0 {l:List Iv} (j:Nat):(z6 (l.take j)).length<=(z6 l).length:=by
 have:z6 l=z6 (l.take j)++z6 (l.drop j):=by unfold z6;rw [<-List.flatMap_append,List.take_append_drop]
 rw [this,List.length_append];omega
theorem XD (C:Nat->Nat->Prop) (k:List Fg) (vk:Value) (w:World) (hr:RightK k) (hz:QW k) (hkl:k.length<=1073741824) (hT:(CI k).length<=1000000) (rk:Dat C w vk (kp k)) (hC:∀ b o,C b o->b<w.heap.size) (hG:GL C w) :
 Calls Tryz.prog 167 #[vk] w fun e w'=>∃ v,e=.returned v/\Below w.heap.size w w'/\OwnU w.heap.size w' v (zq k):=by
 have hmm:=@run_makeMap Tryz.prog
 have rg:=ze3 rk hC hr
 have RK:=Lib.hid rk
 have RG:=Lib.hid rg
 have HR:=Lib.hid hr
 have HGL:=Lib.hid hG
 obtain⟨aa,ca,rfl,hac,ham,_⟩:=rg
 unfold maxLen at ham
 clear rk hG
 have tokA:True:=trivial
 go_enter Tryz.func167,Tryz.ntmps167
 go_wp2_with (first
  | (have _t:=tokA;refine xe rfl _ _ _ (.inr rfl) rfl (MI.made w) (by decide) (r:=0) xM rfl ?_;clear tokA;intro w1 hmi hg1;dsimp only [Act.put])
  | go_in)
 have hs1:w.heap.size<w1.heap.size:=hmi.lt
 have HB1:Hid (Below w.heap.size w w1):=Lib.hid (((Below.refl _ w).alloc (Nat.le_refl _) (.map #[] 0)).grown hg1 (by simp) fun j hj=>by cases hj;exact Nat.le_refl _)
 have HM1:=Lib.hid hmi
 clear hmi hg1
 go_wp2_with fail
 go_loopg [19] k.length (fun g x wr=>∃ i,i<=k.length/\g=k.length - i/\x=.int .i64 i/\MI w.heap.size wr (0::CI (k.take i))/\Below w.heap.size w wr)
 case atStart=>exact⟨0,Nat.zero_le _,rfl,rfl,by simpa [CI] using HM1.out,HB1.out⟩
 case round=>
  obtain⟨i,hi,rfl,rfl,hmi,hB⟩:=hrel
  clear HM1 HB1 hs1
  have HMI:=Lib.hid hmi
  have HB:=Lib.hid hB
  clear hmi hB
  by_cases hlt:i<k.length
  ·obtain⟨a',cap',hav,_,_,hcl⟩:=id RG.out
   obtain⟨bb,off,hab,_,hbn,hcel⟩:=hcl (by intro e;subst e;simp at hlt)
   obtain⟨rfl,_,rfl⟩:aa=a'/\k.length=k.length/\ca=cap':=by simpa using hav
   subst hab
   obtain⟨⟨hv,c0,hrr⟩,av,nv,cv,c1⟩:=hcel i hlt
   replace c0:=(HB.out.cell (p:=⟨bb,off+i * 2,none⟩) hbn).trans c0
   replace c1:=(HB.out.cell (p:=⟨bb,off+i * 2+1,none⟩) hbn).trans c1
   have HE:Hid (∃ f,f=k[i]):=⟨_,rfl⟩
   obtain⟨f,hf⟩:=HE.out
   rw [<-hf] at hrr
   have HF:=Lib.hid hf
   have hfr:ZS f:=by rw [hf];exact hr _ (List.getElem_mem hlt)
   have HFR:=Lib.hid hfr
   obtain⟨ai,ci,rfl,hic,him,_⟩:=id hrr
   have HRR:=Lib.hid hrr
   have hlen:(CI (k.take i)).length+(z6 f.items).length<=1000000:=by
    have:=XJ (k:=k) (i+1)
    rw [Ky hlt,<-hf,List.length_append] at this
    omega
   clear hcl hcel hav hrr hf HE hfr
   unfold maxLen at him
   obtain⟨wo,hwo⟩:∃ wo,wo=wr:=⟨_,rfl⟩
   subst hwo
   go_wp2_with fail
   go_loopg [26] f.items.length (fun g x wq=>∃ j,j<=f.items.length/\g=f.items.length - j/\x=.int .i64 j/\MI w.heap.size wq (0::CI (k.take i)++z6 (f.items.take j))/\Below w.heap.size w wq)
   case atStart=>exact⟨0,Nat.zero_le _,rfl,rfl,by simpa [z6] using HMI.out.keep (Below.heap_alloc _ _ _ HMI.out.lt),HB.out.alloc HB.out.size _⟩
   case round=>
    obtain⟨j,hj,rfl,rfl,hmq,hbq⟩:=hrel
    have HMQ:=Lib.hid hmq
    have HBQ:=Lib.hid hbq
    clear HMI hmq hbq
    by_cases hjl:j<f.items.length
    ·obtain⟨a',cap',hav,_,_,hcl⟩:=HRR.out.keep (w':=wr) (Nat.le_refl _) (Nat.le_refl _) fun b _ h=>HBQ.out.block b h
     obtain⟨bi,oi,hab,_,hbn,hcel⟩:=hcl (by intro e;rw [e] at hjl;simp at hjl)
     obtain⟨rfl,_,rfl⟩:ai=a'/\f.items.length=f.items.length/\ci=cap':=by simpa using hav
     subst hab
     obtain⟨d0,d1,l0,l1⟩:=hcel j hjl
     obtain⟨s,hs⟩:∃ s,s=f.items[j]:=⟨_,rfl⟩
     have hle:s.lo<=s.hi/\s.hi<zk:=by rw [hs];exact HFR.out.1.ivs2 _ (List.getElem_mem hjl)
     have hct:=zaV hjl
     have hcl2:=Q0 (l:=f.items) (j+1)
     rw [<-hs] at d0 d1 l0 l1 hct
     rw [hct,List.length_append] at hcl2
     have HCT:=Lib.hid hct
     clear hcl hcel hav hs hct
     have tokB:True:=trivial
     have tokC:True:=trivial
     by_cases hlast:s.hi=zk - 1
     ·have hc1:=ze0 hlast
      have hh:((s.hi:Nat):Int)=18446744073709551615:=by rw [hlast,zw];rfl
      rw [hh] at d1
      have HC1:=Lib.hid hc1
      clear hc1 hlast hh
      have hBl:=HMQ.out.lt
      go_wp2_with (first
       | (at_mapUpdate;have _t:=tokB;refine xe rfl _ _ _ (.inl rfl) rfl (HMQ.out.keep (Below.heap_alloc _ _ _ HMQ.out.lt)) (by simp;unfold maxLen;omega) (r:=s.lo) l0 rfl ?_;clear tokB;intro w2 hm2 hg2
          have hx2:w2.heap[wr.heap.size]? = some (.cells #[.int .u64 s.lo,.int .u64 18446744073709551615] 36 (0,0)):=(hg2.block _ (by simp) (by simp;omega)).trans (World.alloc_heap_new _ _)
          have f2:=(zW hx2 1 _ rfl).1
          have HM2:=Lib.hid hm2;have HG2:=Lib.hid hg2;clear hm2 hg2 hx2;dsimp only [Act.put])
       | (go_at_call 201;refine(zfO _).mono ?_;rintro e w' ⟨rfl,rfl⟩)
       | go_in)
      go_roundg (f.items.length - (j+1))
      case measure=>omega
      case rel=>
       refine⟨j+1,hjl,rfl,by simp,?_,((HBQ.out.alloc HBQ.out.size _).grown HG2.out (by simp;have:=HBQ.out.size;omega) fun j hj=>by cases hj;exact Nat.le_refl _)⟩
       rw [HCT.out,HC1.out,<-List.append_assoc];exact HM2.out
     ·obtain⟨y,hy⟩:∃ y,s.hi=y:=⟨_,rfl⟩
      have hM:=zw
      have hc1:=zcz (s:=s) (by omega)
      rw [hy] at d1 hc1 hlast hle l1
      have HC1:=Lib.hid hc1
      have hy64:y<18446744073709551615:=by omega
      have hy65:y+1<zk:=by omega
      rw [hc1,List.length_append] at hcl2
      simp at hcl2
      clear hc1 hlast hy hM
      have hBl:=HMQ.out.lt
      go_wp2_with (first
       | (at_mapUpdate;have _t:=tokB;refine xe rfl _ _ _ (.inl rfl) rfl (HMQ.out.keep (Below.heap_alloc _ _ _ HMQ.out.lt)) (by simp;unfold maxLen;omega) (r:=s.lo) l0 rfl ?_;clear tokB;intro w2 hm2 hg2
          have hx2:w2.heap[wr.heap.size]? = some (.cells #[.int .u64 s.lo,.int .u64 y] 36 (0,0)):=(hg2.block _ (by simp) (by simp;omega)).trans (World.alloc_heap_new _ _)
          have f2:=(zW hx2 1 _ rfl).1
          have HM2:=Lib.hid hm2;have HG2:=Lib.hid hg2;clear hm2 hg2 hx2;dsimp only [Act.put])
       | (go_at_call 201;refine(zdr y hy64 _).mono ?_;rintro e w' ⟨rfl,rfl⟩)
       | (at_mapUpdate;have _t:=tokC;refine xe rfl _ _ _ (.inl rfl) rfl HM2.out (by simp;unfold maxLen;omega) (r:=y+1) hy65 rfl ?_;clear tokC;intro w3 hm3 hg3;have HM3:=Lib.hid hm3;have HG3:=Lib.hid hg3;clear hm3 hg3;dsimp only [Act.put])
       | go_in)
      go_roundg (f.items.length - (j+1))
      case measure=>omega
      case rel=>
       refine⟨j+1,hjl,rfl,by simp,?_,((HBQ.out.alloc HBQ.out.size _).grown HG2.out (by simp;have:=HBQ.out.size;omega) fun j hj=>by cases hj;exact Nat.le_refl _).grown HG3.out (by have:=HBQ.out.size;have:=HG2.out.size;simp at this;omega) fun j hj=>by cases hj;exact Nat.le_refl _⟩
       have:=HM3.out
       rw [HCT.out,HC1.out]
       simpa using this
    ·obtain rfl:j=f.items.length:=by omega
     rw [List.take_length] at HMQ
     go_wp2_with fail
     go_roundg (k.length - (i+1))
     case measure=>omega
     case rel=>
      refine⟨i+1,hlt,rfl,by simp,?_,HBQ.out⟩
      rw [Ky hlt,<-HF.out]
      exact HMQ.out
  ·obtain rfl:i=k.length:=by omega
   rw [List.take_length] at HMI
   obtain⟨S,hS⟩:∃ S,S=0::CI k:=⟨_,rfl⟩
   rw [<-hS] at HMI
   have hSl:S.length<=1000001:=by rw [hS];simp;omega
   have HS:=Lib.hid hS
   clear hS
   obtain⟨D,hown,hms⟩:=HMI.out
   have hBl:=hown.lt
   have HO:=Lib.hid hown
   have HMS:=Lib.hid hms
   clear hown hms
   obtain⟨wo,hwo⟩:∃ wo,wo=wr:=⟨_,rfl⟩
   subst hwo
   have tokB:True:=trivial
   go_wp2_with (first
    | (at_range;have _t:=tokB;refine wpList_range_own _ rfl _ 246 rfl 24 4 vF Tryz.underlying246 rV w.heap.size S.length D rfl HO.out ?_;intro w2 hrg2 hg2 hs2;clear tokB)
    | go_in)
   go_frame
   have HR2:Hid (RgS w.heap.size wo.heap.size S.length S (kpB k) (Maps.size D) (Maps.has D) w2):=Lib.hid ⟨D,hrg2,HMS.out.1,fun x=>by rw [HMS.out.2 x];simp;exact .inl,fun x h=>by rw [HMS.out.2 x] at h;simpa using h⟩
   have HB2:Hid (Below w.heap.size w w2):=Lib.hid (HB.out.grown hg2 HB.out.size fun j hj=>by cases hj)
   clear hrg2 hg2 HO HMI HMS
   go_loopg [] (Maps.size D) (fun g wr=>∃ left,RgS w.heap.size wo.heap.size S.length S (kpB k) g left wr/\Below w.heap.size w wr)
   case atStart=>exact⟨_,HR2.out,HB2.out⟩
   case round=>
    obtain⟨left,hrs,hB3⟩:=hrel
    obtain⟨D3,hrg,hIM,hhas,hlf⟩:=hrs
    have HRG:=Lib.hid hrg
    have HIM:=Lib.hid hIM
    have HHS:=Lib.hid hhas
    have HLF:=Lib.hid hlf
    have HB3:=Lib.hid hB3
    clear hrg hIM hhas hlf hB3 HR2 HB2
    go_wp2_with (first
     | (at_next;refine wpList_next_ranges _ rfl _ rfl 24 vF rV (fun r:{r:Nat // r<zk}=>Value.int .u64 (r.1:Nat)) (fun c:Value=>c) zhV (fun v y _=>⟨v,rfl⟩) w.heap.size wo.heap.size S.length D3 left gk rfl HRG.out ?_ ?_)
     | go_in)
    ·intro hc0 hl0
     obtain⟨wl,hwl⟩:∃ wl,wl=wr:=⟨_,rfl⟩
     subst hwl
     obtain⟨S2,hS2⟩:∃ S2,S2=S.filter (kpB k):=⟨_,rfl⟩
     have hms2:∀ y,has D3 (kR y)=decide (y ∈ S2):=fun y=>by rw [HHS.out y,hl0,hS2,Bool.false_or];simp [List.mem_filter]
     have hS2l:S2.length<=1000001:=by have:=List.length_filter_le (kpB k) S;rw [<-hS2] at this;omega
     have HM2:=Lib.hid hms2
     have HS2:=Lib.hid hS2
     have hown:=HRG.out.owns
     have HO:=Lib.hid hown
     have hwlw:w.heap.size<wl.heap.size:=hown.lt
     clear hms2 hS2 hown hl0 hc0
     have tokG:True:=trivial
     go_wp2_with (first
      | (at_range;have _t:=tokG;refine wpList_range_own _ rfl _ 246 rfl 24 4 vF Tryz.underlying246 rV w.heap.size S.length D3 rfl HO.out ?_;intro w5 hrg5 hg5 hs5;clear tokG)
      | go_in)
     go_frame
     have HR5:=Lib.hid hrg5
     have HB5:Hid (Below w.heap.size w w5):=Lib.hid (HB3.out.grown hg5 HB3.out.size fun j hj=>by cases hj)
     have hs5':wl.heap.size+1<=w5.heap.size:=by omega
     clear hrg5 hg5
     go_loopg [13] (Maps.size D3) (fun g v wr=>∃ left l,wr.ranges Tryz.prog 24 rV w.heap.size wl.heap.size S.length D3 left g/\GotS S2 left l/\(∀ y,left (kR y)=true->y ∈ S2)/\OwnU (wl.heap.size+1) wr v l/\Below w.heap.size w wr)
     case atStart=>exact⟨_,[],HR5.out,GotS.nil fun y=>by rw [HM2.out y,decide_eq_true_iff],fun y h=>by rw [HM2.out y] at h;simpa using h,World.ownsRow_nil _ _ _ _,HB5.out⟩
     case round=>
      obtain⟨left2,l,hrg,hgot,hlf,hown,hB6⟩:=hrel
      have HRG6:=Lib.hid hrg
      have HGT:=Lib.hid hgot
      have HLF6:=Lib.hid hlf
      have HOW:=Lib.hid hown
      have HB6:=Lib.hid hB6
      have hll:l.length<=1000001:=Nat.le_trans (qM l S2 hgot.1 fun y hy=>((hgot.2 y).1 hy).1) hS2l
      have hrs6:=hrg.lt
      obtain⟨ad,cap,rfl,hlc,hcm,_⟩:=hown.shape
      unfold maxLen at hcm
      clear hrg hgot hlf hown hB6 HR5 HB5
      go_wp2_with (first
       | (at_next;refine wpList_next_ranges _ rfl _ rfl 24 vF rV (fun r:{r:Nat // r<zk}=>Value.int .u64 (r.1:Nat)) (fun c:Value=>c) zhV (fun v y _=>⟨v,rfl⟩) w.heap.size wl.heap.size S.length D3 left2 gk rfl HRG6.out ?_ ?_)
       | go_in)
      ·intro hc0 hl0
       have hmem:∀ y,y ∈ l ↔ y ∈ S2:=fun y=>by rw [HGT.out.2 y,hl0];simp
       have h0l:0 ∈ l:=(hmem 0).2 (by rw [HS2.out,List.mem_filter,HS.out];exact⟨by simp,by simp [kpB]⟩)
       have hlne:l≠[]:=fun e=>by rw [e] at h0l;cases h0l
       obtain⟨l',hperm,hpw,hcall⟩:=zeb HOW.out hlne (by omega)
       have hfin:l'=zq k:=Yd hr hpw (hperm.nodup_iff.2 HGT.out.1) fun y=>by
        rw [hperm.mem_iff,hmem,HS2.out,HS.out,List.mem_filter]
        refine and_congr_right fun _=>?_
        simp [kpB]
       have hob:∀ j,(Value.slice ad l.length cap).ownBlock=some j->wl.heap.size+1<=j:=fun j hj=>(HOW.out.lt j hj).1
       have HFN:=Lib.hid hfin
       have HCL:=Lib.hid hcall
       have HOB:=Lib.hid hob
       clear hmem h0l hlne hperm hpw hfin hcall hl0 hc0 hob
       have tokH:True:=trivial
       go_wp2_with (first
        | (go_at_call 203;have _t:=tokH;refine HCL.out.mono ?_;rintro e w9 ⟨rfl,ho9,hg9⟩;have HO9:=Lib.hid ho9;have HG9:=Lib.hid hg9;clear ho9 hg9 tokH)
        | go_in)
       refine bodyPost_ret (results_tmp rfl _ _ _) rfl ?_
       exact⟨_,rfl,HB6.out.grown HG9.out HB6.out.size fun j hj=>by have:=HOB.out j hj;omega,by rw [<-HFN.out];exact HO9.out.base (by omega)⟩
      ·intro x hx c kl y ys w7 cnt7 hkey hlk hv hat hrg7 hlt7 hg7 hs7 hen
       try dsimp only at hkey hen ⊢
       obtain rfl:kl=kR x:=by
        have:=(Zq hx).symm.trans hkey
        simpa using this.symm
       have HRG7:=Lib.hid hrg7
       have HG7:=Lib.hid hg7
       have HS7:=Lib.hid hs7
       have hs7w:wl.heap.size+1<=w7.heap.size:=by omega
       have HLK:=Lib.hid hlk
       obtain⟨i0,hi0,hz0,hz1,hz2⟩:=info_parts Vf
       have HO7:Hid (OwnU (wl.heap.size+1) (w7.alloc (.cells #[.int .u64 (x:Nat)] 24)) (.slice ad l.length cap) l):=Lib.hid (HOW.out.keep fun g hg=>by
        have h1:=HOW.out.lt g hg
        rw [Below.heap_alloc _ _ _ (by rw [HS7.out];exact h1.2),HG7.out.block g h1.2 (fun e=>by cases e;omega)])
       have hnb:=World.alloc_heap_new w7 (.cells #[.int .u64 (x:Nat)] 24 (0,0))
       clear hkey hv hat hrg7 hg7 hlk hs7
       have tokH:True:=trivial
       go_wp2_with (first
        | (at_builtin;have _t:=tokH;refine wpList_append_own_at _ rfl _ _ 150 rfl (wl.heap.size+1) 24 i0 (.int .u64 0) 1 8 Tryz.underlying150 hi0 hz0 hz1 hz2 rfl (by decide) _ _ _ rfl HO7.out ⟨w7.heap.size,0,none⟩ 1 1 [.int .u64 (x:Nat)] rfl rfl (kw (cs:=#[.int .u64 (x:Nat)]) (t := 24) (fr:=(0,0)) hnb) (by simp [Value.oneCell']) (by unfold maxLen;omega) (by omega) (by simp;omega) ?_;intro v' w8 ho hgr _ _;clear tokH;have HO8:=Lib.hid ho;have HG8:=Lib.hid hgr;clear ho hgr)
        | go_in)
       have hob:∀ j,(Value.slice ad l.length cap).ownBlock=some j->wl.heap.size+1<=j:=fun j hj=>(HOW.out.lt j hj).1
       have hb78:∀ j,j<wl.heap.size+1->w8.heap[j]? = w7.heap[j]?:=fun j hj=>by
        rw [HG8.out.block j (by simp;omega) (fun e=>by have:=hob j e.symm;omega),Below.heap_alloc _ _ _ (by omega)]
       go_roundg cnt7
       case measure=>exact hlt7
       case rel=>
        refine⟨_,l++[x],yD HRG7.out (hb78 _ (by omega)) (hb78 _ (by omega)),HGT.out.push HLK.out (HLF6.out _ HLK.out),fun r h=>?_,?_,?_⟩
        ·exact HLF6.out r (by cases h0:left2 (kR r) with | true=>rfl | false=>rw [h0] at h;simp at h)
        ·have:=HO8.out
         unfold OwnU
         simpa [uV] using this
        ·exact((HB6.out.grown HG7.out HB6.out.size fun j hj=>by cases hj;omega).alloc (by have:=HG7.out.size;have:=HB6.out.size;omega) _).grown HG8.out (by simp;have:=HB6.out.size;omega) fun j hj=>by have:=hob j hj;omega
    ·intro x hx c kl y ys w3 cnt3 hkey hlk hv hat hrg3 hlt hg3 hs3 hen
     try dsimp only at hkey hen ⊢
     obtain rfl:kl=kR x:=by
      have:=(Zq hx).symm.trans hkey
      simpa using this.symm
     have HRG3:=Lib.hid hrg3
     have HB4:Hid (Below w.heap.size w w3):=Lib.hid (HB3.out.grown hg3 HB3.out.size fun j hj=>by cases hj;exact HB.out.size)
     have HLK:=Lib.hid hlk
     clear hkey hv hat hrg3 hg3 hlk
     cases x with
     | zero=>
       go_wp2_with (first | (go_at_call 202;refine(zgc _).mono ?_;rintro e w' ⟨rfl,rfl⟩) | go_in)
       go_roundg cnt3
       case measure=>exact hlt
       case rel=>exact⟨_,RgS.next HIM.out HHS.out HLF.out HLK.out (by simp [kpB]) HRG3.out,HB4.out⟩
     | succ x=>
       have hx64:x<18446744073709551615:=by have:=zw;omega
       have hml:(zU k x).length<=1152921504606846976:=by
        have h1:=Zg x 0 k
        unfold zU
        rw [List.length_map]
        omega
       have tokC:True:=trivial
       have tokD:True:=trivial
       have tokE:True:=trivial
       have tokF:True:=trivial
       by_cases heq:zU k x=zU k (x+1)
       ·have HQ:=Lib.hid (show decide (zU k x=zU k (x+1))=true from decide_eq_true heq)
        have HKB:=Lib.hid (show kpB k (x+1)=false by simp [kpB,heq])
        clear heq
        go_wp2_with (first
         | (go_at_call 202;refine(VH x hx64 _).mono ?_;rintro e w' ⟨rfl,rfl⟩)
         | (go_at_call 62;have _t:=tokC;refine(Xg x hr hz hkl RK.out hC HGL.out HB4.out).mono ?_;rintro e w4 ⟨u1,rfl,hb1,hm1⟩;have HB5:=Lib.hid hb1;have HM5:=Lib.hid hm1;clear hb1 hm1 tokC)
         | (go_at_call 62;have _t:=tokD;refine(Xg (x+1) hr hz hkl RK.out hC HGL.out (HB4.out.trans (HB5.out.mono HB4.out.size))).mono ?_;rintro e w5 ⟨u2,rfl,hb1,hm1⟩;have HB6:=Lib.hid hb1;have HM6:=Lib.hid hm1;clear hb1 hm1 tokD)
         | (go_at_call 61;have _t:=tokE;refine(zgP true HQ.out hml hC HGL.out ((HB4.out.trans (HB5.out.mono HB4.out.size)).trans (HB6.out.mono ((HB4.out.trans (HB5.out.mono HB4.out.size)).size))) (HM5.out.stab _ _ _ (Keep.of_below' HB6.out (Nat.le_refl _))) HM6.out).mono ?_;rintro e w6 ⟨rfl,hb1⟩;have HB7:=Lib.hid (((Below.refl _ _).trans HB5.out).trans ((HB6.out.mono HB5.out.size).trans (hb1.mono (Nat.le_trans HB5.out.size HB6.out.size))));clear hb1 tokE)
         | (at_delete;have _t:=tokF;refine wpList_delete_ranges _ rfl _ _ 246 24 rfl 4 vF Tryz.underlying246 rV w.heap.size wo.heap.size S.length D3 _ cnt3 rfl (yD HRG3.out (HB7.out.block _ (Nat.lt_trans hBl HRG3.out.lt)) (HB7.out.block _ HRG3.out.lt)) _ (kR (x+1)) rfl (Zq hx) ?_;intro w7 cnt4 hrg7 hle7 hturn;clear tokF;have HRG7:=Lib.hid hrg7;have HG7:=Lib.hid hturn.grown;clear hrg7 hturn;dsimp only [Act.put])
         | go_in)
        go_roundg cnt4
        case measure=>omega
        case rel=>exact⟨_,RgS.del HIM.out HHS.out HLF.out HKB.out HRG7.out,(HB4.out.trans (HB7.out.mono HB4.out.size)).grown HG7.out (HB4.out.trans (HB7.out.mono HB4.out.size)).size fun j hj=>by cases hj;exact Nat.le_refl _⟩
       ·have HQ:=Lib.hid (show decide (zU k x=zU k (x+1))=false from decide_eq_false heq)
        have HKB:=Lib.hid (show kpB k (x+1)=true by simp [kpB,heq])
        clear heq
        go_wp2_with (first
         | (go_at_call 202;refine(VH x hx64 _).mono ?_;rintro e w' ⟨rfl,rfl⟩)
         | (go_at_call 62;have _t:=tokC;refine(Xg x hr hz hkl RK.out hC HGL.out HB4.out).mono ?_;rintro e w4 ⟨u1,rfl,hb1,hm1⟩;have HB5:=Lib.hid hb1;have HM5:=Lib.hid hm1;clear hb1 hm1 tokC)
         | (go_at_call 62;have _t:=tokD;refine(Xg (x+1) hr hz hkl RK.out hC HGL.out (HB4.out.trans (HB5.out.mono HB4.out.size))).mono ?_;rintro e w5 ⟨u2,rfl,hb1,hm1⟩;have HB6:=Lib.hid hb1;have HM6:=Lib.hid hm1;clear hb1 hm1 tokD)
         | (go_at_call 61;have _t:=tokE;refine(zgP false HQ.out hml hC HGL.out ((HB4.out.trans (HB5.out.mono HB4.out.size)).trans (HB6.out.mono ((HB4.out.trans (HB5.out.mono HB4.out.size)).size))) (HM5.out.stab _ _ _ (Keep.of_below' HB6.out (Nat.le_refl _))) HM6.out).mono ?_;rintro e w6 ⟨rfl,hb1⟩;have HB7:=Lib.hid (((Below.refl _ _).trans HB5.out).trans ((HB6.out.mono HB5.out.size).trans (hb1.mono (Nat.le_trans HB5.out.size HB6.out.size))));clear hb1 tokE)
         | go_in)
        go_roundg cnt3
        case measure=>exact hlt
        case rel=>exact⟨_,(RgS.next HIM.out HHS.out HLF.out HLK.out HKB.out HRG3.out).keep (HB7.out.block _ (Nat.lt_trans hBl HRG3.out.lt)) (HB7.out.block _ HRG3.out.lt),HB4.out.trans (HB7.out.mono HB4.out.size)⟩
end Go.Proofs.YtjimggclhlnfbaaGreatDoor
namespace Go.Proofs.YtjimggclhlnfbaaGreatDoor
open Go.RowKit
theorem X3 {k:List Fg} (h:vx k=true):k.length<=12/\∀ f ∈ k,f.items.length<=20/\f.vec.length<=20/\∀ e ∈ f.vec,e.holes.length<=30:=by
 obtain⟨h1,h2⟩:=Z3.1 h
 exact⟨h2,fun f hf=>⟨(h1 f hf).1,(vw.1 (h1 f hf).2).2,(vw.1 (h1 f hf).2).1⟩⟩
theorem zcS {k:List Fg} (h:vx k=true):QW k:=by
 obtain⟨h1,h2⟩:=X3 h
 exact⟨by omega,fun f hf=>by
  obtain⟨q1,q2,q3⟩:=h2 f hf
  exact⟨by omega,by omega,fun e he=>by have:=q3 e he;omega⟩⟩
theorem zhj (f:Fg) (v:List En) (hf:∀ e ∈ f.vec,ZL e) (hv:∀ e ∈ v,ZL e) (lf:(zv f.vec).length<=1073741824) (lv:(zv v).length<=1073741824):Cn Tryz.prog 169 [fp f,vp v] (.v (.int .i64 (zZ (zv f.vec) (zv v)))):=by
 refine zt Tryz.func169 2 ?_
 refine pw ?_
 exact .d (Ks f.vec v hf hv lf lv)
theorem zhm (k:List Fg) (v:List En) (i:Nat) (hi:i<=k.length) (h1:∀ j,(h:j<k.length)->j<i->ZH k[j].vec v) (h2:∀ j,(h:j<k.length)->i<=j->¬ ZH k[j].vec v) (hl:k.length<=1152921504606846976)
 (hc:∀ f ∈ k,Cn Tryz.prog 169 [fp f,vp v] (.v (.int .i64 (zZ (zv f.vec) (zv v))))) :
 Cn Tryz.prog 168 [kp k,vp v,.fn (.func 169) [] []] (.tup [.v (.int .i64 i),.v (.bool (if h:i<k.length then decide (zZ (zv k[i].vec) (zv v)=0) else false))]):=by
 refine zt Tryz.func168 3 ?_
 refine pw ?_
 refine pLoop.go (fun p:Nat × Nat=>p.1<=i/\i<=p.2/\p.2<=k.length) (fun p=>[(9,.v (.int .i64 (p.1:Nat))),(10,.v (.int .i64 (p.2:Nat)))]) (fun _=>[]) (fun p=>p.2 - p.1) (0,k.length) [9,10] ?_ ?_ ?_
 ·exact⟨Nat.zero_le _,hi,Nat.le_refl _⟩
 ·exact pd
 ·rintro⟨p,q⟩ ⟨k1,k2,k3⟩
  simp only at k1 k2 k3
  refine pw ?_
  refine .i ?_ ?_<;>intro h<;>(try simp only [zb] at h)<;>first | refine pw ?_ | exact pd
  ·have hm:(p+q) / 2<k.length:=by omega
   have a1:=h1 _ hm
   have a2:=h2 _ hm
   refine pw ?_
   (first | refine .c (hc k[(p+q) / 2] (List.getElem_mem hm)) ?_ | refine .o (hc k[(p+q) / 2] (List.getElem_mem hm)) ?_)
   refine .i ?_ ?_<;>intro h4<;>(try simp only [zb] at h4)<;>first | refine pw ?_ | exact pd
   ·refine⟨((p+q) / 2+1,q),⟨?_,k2,k3⟩,by simp only;omega,rfl,rfl⟩
    simp only
    exact Nat.lt_of_not_le fun h5=>a2 h5 h4
   ·refine⟨(p,(p+q) / 2),⟨k1,?_,by simp only;omega⟩,by simp only;omega,rfl,rfl⟩
    simp only
    refine Nat.le_of_not_lt fun h5=>?_
    have:=a1 h5
    unfold ZH at this
    omega
  ·obtain rfl:p=i:=by omega
   obtain rfl:q=p:=by omega
   refine .i ?_ ?_<;>intro h4<;>(try simp only [zb] at h4)<;>first | refine pw ?_ | exact pd
   ·(first | refine .c (hc k[q] (List.getElem_mem h4)) ?_ | refine .o (hc k[q] (List.getElem_mem h4)) ?_)
    rw [dif_pos h4]
    try simp
   ·rw [dif_neg (by omega)]
theorem Qo:∀ {k:List Fg} (v:List En),k.Pairwise (fun f g=>ZH f.vec g.vec)->∃ i,i<=k.length/\(∀ j,(h:j<k.length)->j<i->ZH k[j].vec v)/\(∀ j,(h:j<k.length)->i<=j->¬ ZH k[j].vec v)
 | [],v,_=>⟨0,Nat.le_refl _,fun j h=>by simp at h,fun j h=>by simp at h⟩
 | f::k,v,hp=>by
   have hp':=List.pairwise_cons.1 hp
   by_cases h:ZH f.vec v
   ·obtain⟨i,h0,h1,h2⟩:=Qo v hp'.2
    refine⟨i+1,by simp;omega,fun j hj hlt=>?_,fun j hj hle=>?_⟩
    ·cases j with
     | zero=>exact h
     | succ j=>exact h1 j (by simpa using hj) (by omega)
    ·cases j with
     | zero=>omega
     | succ j=>exact h2 j (by simpa using hj) (by omega)
   ·refine⟨0,Nat.zero_le _,fun j _ h=>absurd h (Nat.not_lt_zero _),fun j hj _ hlt=>?_⟩
    cases j with
    | zero=>exact h hlt
    | succ j=>exact h (k8 (hp'.1 _ (List.getElem_mem (by simpa using hj))) hlt)
theorem Y8:∀ {k:List Fg} {f:Fg} {i:Nat},i<=k.length->(∀ j,(h:j<k.length)->j<i->ZH k[j].vec f.vec)->(∀ j,(h:j<k.length)->i<=j->¬ ZH k[j].vec f.vec) ->
 qN k f=if h:i<k.length then (if zZ (zv k[i].vec) (zv f.vec)=0 then k.take i++⟨qy zn k[i].items f.items,f.vec⟩::k.drop (i+1) else k.take i++f::k.drop i) else k++[f]
 | [],f,i,h0,h1,h2=>by simp [qN]
 | g::k,f,i,h0,h1,h2=>by
   cases i with
   | zero=>
     have hn:=h2 0 (by simp) (Nat.le_refl _)
     have hn':¬ zZ (zv g.vec) (zv f.vec)<0:=hn
     rw [qN,if_neg hn',dif_pos (by simp)]
     simp only [List.getElem_cons_zero,List.take_zero,List.nil_append,List.drop_zero,List.drop_succ_cons]
   | succ i=>
     have hy:zZ (zv g.vec) (zv f.vec)<0:=h1 0 (by simp) (by omega)
     rw [qN,if_pos hy,Y8 (i:=i) (by simpa using h0) (fun j hj hlt=>h1 (j+1) (by simpa using hj) (by omega)) (fun j hj hle=>h2 (j+1) (by simpa using hj) (by omega))]
     simp only [List.length_cons,List.getElem_cons_succ,List.take_succ_cons,List.drop_succ_cons,List.cons_append,Nat.add_lt_add_iff_right]
     split
     ·split<;>rfl
     ·rfl
end Go.Proofs.YtjimggclhlnfbaaGreatDoor
namespace Go.Proofs.YtjimggclhlnfbaaGreatDoor
open Go.RowKit
attribute [-go_sem] z7
structure AddOk (o:List Fg) (f:Fg):Prop where
 gi:GrpI o
 fo:OkG f
 l:o.length<=1048576
 fi:f.items.length<=100000000
 oi:∀ g ∈ o,g.items.length<=100000000
 bd:∀ e ∈ f.vec,ZL e
 bo:∀ g ∈ o,∀ e ∈ g.vec,ZL e
 nf:(zv f.vec).length<=1073741824
 no:∀ g ∈ o,(zv g.vec).length<=1073741824
theorem xL {D:Nat->Nat->Prop} {w:World} {v:Value} {l:List En} (h:Dat D w v (vp l)):∃ ad cap,v=.slice ad l.length cap:=by
 have h':Dat D w v (.sl (l.map ec) .sh):=h
 obtain⟨ad,cap,sz,b,off,f,e1,_⟩:=(Rel.dat (ρ:=fun _=>0) (nb:=0) h').inv_sl
 rw [List.length_map] at e1
 exact⟨ad,cap,e1⟩
def zc1 (o:List Fg) (f:Fg) (i:Nat):Bool:=if h:i<o.length then decide (zZ (zv o[i].vec) (zv f.vec)=0) else false
theorem zjH {C:Nat->Nat->Prop} {rb base:Nat} {w:World} {v vv:Value} {o:List Fg} {f:Fg} (i:Nat) (r:Bool) (hr:zc1 o f i=r) (ho:AddOk o f) (hout:OutG C rb base w v o) (dv:Dat (DL C rb w) w vv (vp f.vec)) (hb:rb<base) (hC:∀ b o,C b o->b<rb) (hrb:rb<w.heap.size) (hG:GL C w)
 (hi:i<=o.length) (h1:∀ j,(h:j<o.length)->j<i->ZH o[j].vec f.vec) (h2:∀ j,(h:j<o.length)->i<=j->¬ ZH o[j].vec f.vec) :
 Calls Tryz.prog 168 #[v,vv,.func (.func 169) #[] #[]] w fun e w'=>e=.returned (.tuple #[.int .i64 (i:Nat),.bool r])/\Below w.heap.size w w':=by
 subst hr
 refine(jP (D:=DL C rb w) (zhm o f.vec i hi h1 h2 (by have:=ho.l;omega) fun g hg=>zhj g f.vec (ho.bo g hg) ho.bd (ho.no g hg) ho.nf) (hG.mono (fun _ _ h=>.inl h) fun _ _ _ _ h=>h) (fun b o h=>h.elim (fun h=>Nat.lt_trans (hC b o h) hrb) And.right) rfl (fun j p hp=>?_)).mono ?_
 ·match j,hp with
  | 0,hp=>cases hp;exact hout.dat hb
  | 1,hp=>cases hp;exact dv
  | 2,hp=>cases hp;exact .fn _ #[] #[] [] [] rfl rfl (fun _ _ h=>by simp at h) (fun _ _ h=>by simp at h)
  | j+3,hp=>simp at hp
 ·rintro e w' ⟨u,rfl,hb',hd⟩
  rw [XY hd]
  exact⟨rfl,hb'⟩
theorem zeo {C:Nat->Nat->Prop} {rb:Nat} {w:World} {v a b:Value} {l m:List Iv} (hl:Nrm l) (hm:Nrm m) (hs:l.length+m.length<=1073741824) (da:Dat (DX C rb w v) w a (rg l)) (db:Dat (DX C rb w v) w b (rg m)) (hv:∀ k,v.ownBlock=some k->rb<k/\k<w.heap.size) (hC:∀ b o,C b o->b<rb) (hrb:rb<w.heap.size) (hG:GL C w) :
 Calls Tryz.prog 74 #[a,b] w fun e w'=>∃ u,e=.returned u/\Below w.heap.size w w'/\Dat (DX C rb w' v) w' u (rg (qy zn l m)):=by
 refine(jP (D:=DX C rb w v) (zaz l m hl hm hs) (hG.mono (fun b o h=>⟨.inl h,fun e=>by have:=(hv b e).1;have:=hC b o h;omega⟩) fun _ _ _ _ h=>h) (fun b o h=>h.1.elim (fun h=>Nat.lt_trans (hC b o h) hrb) And.right) rfl (fun j p hp=>?_)).mono ?_
 ·match j,hp with
  | 0,hp=>cases hp;exact da
  | 1,hp=>cases hp;exact db
  | j+2,hp=>simp at hp
 ·rintro e w' ⟨u,rfl,hb,hd⟩
  exact⟨u,rfl,hb,hd.mono (fun b o h=>by
   rcases h with h | h
   ·exact⟨h.1.imp id fun h=>⟨h.1,Nat.lt_of_lt_of_le h.2 hb.size⟩,h.2⟩
   ·exact⟨.inr ⟨by omega,h.2⟩,fun e=>by have:=(hv b e).2;omega⟩) fun _ _ _ _ h=>h⟩
theorem zhT {o:List Fg} {f:Fg} {i:Nat} (h:zc1 o f i=true):∃ hi:i<o.length,zZ (zv o[i].vec) (zv f.vec)=0:=by
 unfold zc1 at h
 split at h
 ·rename_i hi
  exact⟨hi,by simpa using h⟩
 ·cases h
theorem Jh {C:Nat->Nat->Prop} {base rb:Nat} {w:World} {v va vv:Value} {o:List Fg} {f:Fg} (hok:AddOk o f) (hout:OutG C (rb+1) base w v o) (hbx:Boxed w rb 143 v) (hrb:rb+1<base) (hbase:base<=w.heap.size) (hC:∀ b o,C b o->b<rb) (hG:GL C w)
 (da:Dat (DX C (rb+1) w v) w va (rg f.items)) (dv:Dat (DX C (rb+1) w v) w vv (vp f.vec)) :
 Calls Tryz.prog 122 #[.pointer (some ⟨rb,0,none⟩),.agg #[va,vv]] w fun e w'=>(∃ u,e=.returned u)/\∃ v',Boxed w' rb 143 v'/\OutG C (rb+1) base w' v' (qN o f)/\Keep (fun k=>k=rb\/base<=k) w w':=by
 obtain⟨i,hi,q1,q2⟩:=Qo f.vec hok.gi.srt
 have hins:=Y8 hi q1 q2
 have hrw:=hbx.lt
 obtain⟨w1,hw1⟩:∃ w1,w1=w.alloc (.cells #[va,vv] 34):=⟨_,rfl⟩
 have hs1:w1.heap.size=w.heap.size+1:=by rw [hw1];simp
 have hb1:∀ j,j<w.heap.size->w1.heap[j]? = w.heap[j]?:=fun j hj=>by rw [hw1];exact Below.heap_alloc _ _ _ hj
 have hx1:w1.heap[w.heap.size]? = some (.cells #[va,vv] 34 (0,0)):=by rw [hw1];exact World.alloc_heap_new w _
 have hout1:=hout.keep (w':=w1) (by omega) hb1
 have da1:Dat (DX C (rb+1) w1 v) w1 va (rg f.items):=DX.keep da (by omega) fun k hk _=>hb1 k hk
 have dv1:Dat (DX C (rb+1) w1 v) w1 vv (vp f.vec):=DX.keep dv (by omega) fun k hk _=>hb1 k hk
 have hbx1:Boxed w1 rb 143 v:=(hb1 rb hrw).trans hbx
 have hG1:GL C w1:=hG.mono (fun _ _ h=>h) fun b o x hc hx=>(World.cell?_of_block (a:=⟨b,o,none⟩) (hb1 b (by have:=hC b o hc;omega))).trans hx
 obtain⟨ad,cap,rfl,hlc,hcm⟩:=hout.shape
 unfold maxLen at hcm
 obtain⟨aa,ca,rfl⟩:=zK da
 obtain⟨av,cv,rfl⟩:=xL dv
 obtain⟨r,hr⟩:∃ r,zc1 o f i=r:=⟨_,rfl⟩
 have hbs:∀ W,Below w1.heap.size w1 W->Calls Tryz.prog 168 #[.slice ad o.length cap,.slice av f.vec.length cv,.func (.func 169) #[] #[]] W fun e w'=>e=.returned (.tuple #[.int .i64 (i:Nat),.bool r])/\Below W.heap.size W w':=fun W hW=>
  zjH i r hr hok (hout1.keep hW.size fun k hk=>hW.block k hk) ((DX.keep dv1 hW.size fun k hk _=>hW.block k hk).mono (fun _ _ h=>h.1) fun _ _ _ _ h=>h) hrb (fun b o h=>Nat.lt_succ_of_lt (hC b o h)) (by have:=hW.size;omega) (hG1.mono (fun _ _ h=>h) fun b o x hc hx=>(World.cell?_of_block (a:=⟨b,o,none⟩) (hW.block b (by have:=hC b o hc;omega))).trans hx) hi q1 q2
 have HBS:=Lib.hid hbs
 have c0:=hbx1.cell
 have e0:=(zW hx1 0 _ rfl).1
 have e1:=(zW hx1 1 _ rfl).1
 have HW1:=Lib.hid hw1
 have HO1:=Lib.hid hout1
 have HDA:=Lib.hid da1
 have HDV:=Lib.hid dv1
 have HX1:=Lib.hid hbx1
 have HG1:=Lib.hid hG1
 have HINS:=Lib.hid hins
 have HXX:=Lib.hid hx1
 have HHIT:=Lib.hid hr
 have HBB:=Lib.hid hb1
 clear hins hb1 hx1 hout1 da1 dv1 hbx1 hG1 hr da dv hout hbx hG q1 q2 hbs
 have tokA:True:=trivial
 have hc1:Below w1.heap.size w1 w1.drew:=(Below.refl _ _).drew
 have mixed:Tryz.prog.follows .mixedOrders=true:=by kernel_rfl
 go_enter Tryz.func122,Tryz.ntmps122
 go_wp2_with fail
 rw [<-hw1]
 refine Kg (Sw:=qe) 12 51 (fun w9=>Below w1.heap.size w1 w9/\w9.cell? ⟨rb,0,none⟩=some (.slice ad o.length cap)/\w9.cell? ⟨w.heap.size,1,none⟩=some (.slice av f.vec.length cv)) (by kernel_rfl) (by kernel_rfl) rfl ⟨hc1,c0,e1⟩ ?_
 simp only [List.take_succ_cons,List.take_zero]
 refine Jz ?_
 refine V7 (fun u _=>u=.tuple #[.int .i64 (i:Nat),.bool r]) (yj _) rfl ?_ ?_
 ·intro a2 w2 hc hk hr K hK
  have HK:=Lib.hid hK
  clear hK
  simp [Rds,zA,lk,Op.operands,Call.operands,RdEq] at hr
  go_simp
  refine(HBS.out _ hc.1).mono ?_
  rintro e w3 ⟨rfl,hb⟩
  have hkb:Keep qe w2 w3:=Keep.of_below' hb (Nat.le_refl _)
  exact HK.out _ _ hkb ⟨hc.1.trans (hb.mono hc.1.size),hkb.cell_some hc.2.1 id,hkb.cell_some hc.2.2 id⟩ rfl
 dsimp only [List.nil_append,List.cons_append]
 refine Jz ?_
 intro w2 hc2 hk2
 simp only [finG,forall_eq,List.nil_append,List.cons_append,List.drop_succ_cons,List.drop_zero,List.drop_nil]
 simp only [Act.put,List.setIfInBounds_toArray,List.set_cons_succ,List.set_cons_zero]
 have HB2:=Lib.hid hc2.1
 have c2:=hc2.2.1
 have f2:=(hc2.1.block _ (by omega)).trans (show w1.heap[w.heap.size]? = _ from HXX.out)
 have g0:=(zW f2 0 _ rfl).1
 have g1:=(zW f2 1 _ rfl).1
 clear hc2 hk2 hc1
 cases r with
 | true=>
   obtain⟨hlt,hz⟩:=zhT HHIT.out
   have hout2:=HO1.out.keep (w':=w2) HB2.out.size fun k hk=>HB2.out.block k hk
   have HO2:=Lib.hid hout2
   obtain⟨xs,hxs,hel⟩:=id hout2
   obtain⟨a,b,ea,eb,dva,dvb⟩:=hel i hlt
   obtain⟨g,cap',cur,ev,hgb,hgl,hgc,_,_,_,_⟩:=hxs.cases.resolve_left (fun h=>by omega)
   obtain⟨rfl,_,rfl⟩:ad=some ⟨g,0,none⟩/\o.length=o.length/\cap=cap':=by simpa using ev
   have cia:w2.cell? ⟨g,i * 2,none⟩=some a:=by
    have:=World.ownsRow.cells hxs.1 (g:=g) rfl (i * 2) a ea
    rw [zh,Nat.zero_add] at this
    exact this
   have hbk:∀ k,(Value.slice (some ⟨g,0,none⟩) o.length cap).ownBlock=some k->rb+1<k/\k<w2.heap.size:=fun k hk=>by have:=hout2.owns k hk;omega
   obtain⟨ai,ci,rfl⟩:=zK dva
   have hun:∀ W,Below w2.heap.size w2 W->Calls Tryz.prog 74 #[.slice ai o[i].items.length ci,.slice aa f.items.length ca] W fun e w'=>∃ u,e=.returned u/\Below W.heap.size W w'/\Dat (DX C (rb+1) w' (.slice (some ⟨g,0,none⟩) o.length cap)) w' u (rg (qy zn o[i].items f.items)):=fun W hW=>
    zeo (hok.gi.ok _ (List.getElem_mem hlt)).2.2.1 hok.fo.2.2.1 (by have:=hok.oi _ (List.getElem_mem hlt);have:=hok.fi;omega) (DX.keep dva hW.size fun k hk _=>hW.block k hk) (DX.keep HDA.out (Nat.le_trans HB2.out.size hW.size) fun k hk _=>(hW.block k (Nat.lt_of_lt_of_le hk HB2.out.size)).trans (HB2.out.block k hk)) (fun k hk=>⟨(hbk k hk).1,Nat.lt_of_lt_of_le (hbk k hk).2 hW.size⟩) (fun b o h=>Nat.lt_succ_of_lt (hC b o h)) (by have:=HB2.out.size;have:=hW.size;omega) (HG1.out.mono (fun _ _ h=>h) fun b o x hc hx=>(World.cell?_of_block (a:=⟨b,o,none⟩) ((hW.block b (by have:=hC b o hc;have:=HB2.out.size;omega)).trans (HB2.out.block b (by have:=hC b o hc;omega)))).trans hx)
   have HUN:=Lib.hid hun
   have hc3:Below w2.heap.size w2 w2.drew:=(Below.refl _ _).drew
   have HGC:=Lib.hid hgc
   have hcap:0<cap:=by omega
   have hs2:=HB2.out.size
   clear hun hout2 hxs hel ea eb dva dvb hgc hbk
   obtain⟨wb,hwb⟩:∃ wb,wb=w2:=⟨_,rfl⟩
   subst hwb
   go_wp2_with fail
   refine Kg (Sw:=qe) 16 51 (fun w9=>Below wb.heap.size wb w9/\w9.cell? ⟨rb,0,none⟩=some (.slice (some ⟨g,0,none⟩) o.length cap)/\w9.cell? ⟨g,i * 2,none⟩=some (.slice ai o[i].items.length ci)/\w9.cell? ⟨w.heap.size,0,none⟩=some (.slice aa f.items.length ca)) (by kernel_rfl) (by kernel_rfl) rfl ⟨hc3,c2,cia,g0⟩ ?_
   simp only [List.take_succ_cons,List.take_zero]
   refine Jz ?_
   refine V7 (fun u w9=>Dat (DX C (rb+1) w9 (.slice (some ⟨g,0,none⟩) o.length cap)) w9 u (rg (qy zn o[i].items f.items))) (fun u wa wb h hk=>DX.keep h hk.size fun k hk2 _=>hk.block k hk2 id) rfl ?_ ?_
   ·intro a2 w2 hc hk hr K hK
    have HK:=Lib.hid hK
    clear hK
    simp [Rds,zA,lk,Op.operands,Call.operands,RdEq] at hr
    go_simp
    refine(HUN.out _ hc.1).mono ?_
    rintro e w3 ⟨u,rfl,hb,hd⟩
    have hkb:Keep qe _ w3:=Keep.of_below' hb (Nat.le_refl _)
    exact HK.out _ _ hkb ⟨hc.1.trans (hb.mono hc.1.size),hkb.cell_some hc.2.1 id,hkb.cell_some hc.2.2.1 id,hkb.cell_some hc.2.2.2 id⟩ hd
   dsimp only [List.nil_append,List.cons_append]
   refine Jz ?_
   intro w2 hc2 hk2
   simp only [finG,forall_eq,List.nil_append,List.cons_append,List.drop_succ_cons,List.drop_zero,List.drop_nil]
   simp only [Act.put,List.setIfInBounds_toArray,List.set_cons_succ,List.set_cons_zero]
   intro u hu
   obtain⟨au,cu,rfl⟩:=zK hu
   have HU:=Lib.hid hu
   have HC3:=Lib.hid hc2.1
   have c3:=hc2.2.2.1
   have f3:w2.frozen? ⟨g,i * 2,none⟩=false:=by
    have:=(hc2.1.block g hgl).trans HGC.out
    simp [World.frozen?,this]
   clear hu hc2 hk2 hc3 c2 cia g0 g1 f2
   go_wp2
   (try simp only [Exit.inBlock,Exit.then]);refine bodyPost_ret (results_none rfl _ _ _) rfl ?_
   have hfin:=(HO2.out.keep (w':=w2) HC3.out.size fun k hk=>HC3.out.block k hk).set hlt HU.out hcap
   have hins:qN o f=o.take i++⟨qy zn o[i].items f.items,o[i].vec⟩::o.drop (i+1):=by
    rw [HINS.out,dif_pos hlt,if_pos hz,<-YU hz]
   rw [hins]
   refine⟨⟨_,rfl⟩,_,?_,hfin,?_⟩
   ·refine(Below.heap_setCell _ _ _ _ (by show rb≠g;omega)).trans ((HC3.out.block rb (by omega)).trans ((HB2.out.block rb (by omega)).trans HX1.out))
   ·have hk1:Keep (fun k=>k=rb\/base<=k) w w1:=by rw [HW1.out];exact(Keep.refl _ w).alloc _
    exact((hk1.trans (Keep.of_below' HB2.out (Nat.le_refl _))).trans (Keep.of_below' HC3.out (Nat.le_refl _))).setCell (fun _=>.inr hgb) _
 | false=>
   have hins:qN o f=o.take i++f::o.drop i:=by
    rw [HINS.out]
    have hh:=HHIT.out
    unfold zc1 at hh
    split at hh
    ·rename_i h
     rw [dif_pos h,if_neg (by simpa using hh)]
    ·rename_i h
     rw [dif_neg h,List.take_of_length_le (by omega),List.drop_of_length_le (by omega)]
   have HI2:=Lib.hid hins
   have hs2:=HB2.out.size
   have hcl:∀ W,Below w2.heap.size w2 W->Calls Tryz.prog 64 #[.slice aa f.items.length ca] W fun e w'=>∃ au cu,e=.returned (.slice au f.items.length cu)/\OwnR W.heap.size w' (.slice au f.items.length cu) f.items/\Below W.heap.size W w':=fun W hW=>by
    have hda:=DX.keep HDA.out (Nat.le_trans hs2 hW.size) fun k hk _=>(hW.block k (Nat.lt_of_lt_of_le hk hs2)).trans (HB2.out.block k hk)
    refine(zeX (je hda (fun b o h=>h.1.elim (fun h=>by have:=hC b o h;have:=hW.size;omega) And.right) hok.fo.2.2.1.lt) (by have:=hok.fi;omega) hok.fo.2.2.2).mono ?_
    rintro e w' ⟨v',rfl,h1,h2⟩
    obtain⟨au,cu,rfl⟩:=zK (jp (D:=fun _ _=>True) h1.rd fun _ _ _ _=>trivial)
    exact⟨au,cu,rfl,h1,h2⟩
   have HCL:=Lib.hid hcl
   clear hcl hins
   have hc3:Below w2.heap.size w2 w2.drew:=(Below.refl _ _).drew
   obtain⟨wb,hwb⟩:∃ wb,wb=w2:=⟨_,rfl⟩
   subst hwb
   go_wp2_with fail
   refine znC [1,2,3,4,5,6,7,8,9,10,11,12,0,13,14,15,16] 12 51 (fun w9=>Below wb.heap.size wb w9/\w9.cell? ⟨rb,0,none⟩=some (.slice ad o.length cap)/\w9.cell? ⟨w.heap.size,0,none⟩=some (.slice aa f.items.length ca)/\w9.cell? ⟨w.heap.size,1,none⟩=some (.slice av f.vec.length cv)) mixed (by kernel_rfl) (by kernel_rfl) rfl ⟨hc3,c2,g0,g1⟩ _ _ rfl rfl rfl rfl _ rfl ?_
   simp only [z8,List.map_cons,List.map_nil,List.getD_cons_zero,List.getD_cons_succ,List.take_succ_cons,List.take_zero,List.drop_succ_cons,List.drop_zero]
   repeat (refine Pl.wdetK ?_ rfl (fun a w hc _ hr=>?_) ?_;rotate_left;(simp [Pl.Rds,zA,Pl.lk,Op.operands,Call.operands,RdEq] at hr;go_simp;with_reducible rfl);dsimp only [List.nil_append,List.cons_append])
   refine Pl.wgenK (fun u w9=>∃ au cu,u=.slice au f.items.length cu/\OwnR wb.heap.size w9 u f.items) (fun u _ _ h hk=>by obtain⟨au,cu,e,h⟩:=h;exact⟨au,cu,e,h.keep hk fun _ _ h=>h⟩) rfl ?_ ?_
   ·intro a2 w2 hc hk hr K hK
    have HK:=Lib.hid hK
    clear hK
    simp [Pl.Rds,zA,Pl.lk,Op.operands,Call.operands,RdEq] at hr
    go_simp
    refine(HCL.out _ hc.1).mono ?_
    rintro e w3 ⟨au,cu,rfl,ho,hb⟩
    have hkb:Keep qe _ w3:=Keep.of_below' hb (Nat.le_refl _)
    exact HK.out _ _ hkb ⟨hc.1.trans (hb.mono hc.1.size),hkb.cell_some hc.2.1 id,hkb.cell_some hc.2.2.1 id,hkb.cell_some hc.2.2.2 id⟩ ⟨au,cu,rfl,ho.mono hc.1.size⟩
   dsimp only [List.nil_append,List.cons_append]
   repeat (refine Pl.wdetK ?_ rfl (fun a w hc _ hr=>?_) ?_;rotate_left;(simp [Pl.Rds,zA,Pl.lk,Op.operands,Call.operands,RdEq] at hr;go_simp;with_reducible rfl);dsimp only [List.nil_append,List.cons_append])
   refine Pl.wgenK (fun u w9=>∃ au cu,u=.agg #[.slice au f.items.length cu,.slice av f.vec.length cv]/\OwnR wb.heap.size w9 (.slice au f.items.length cu) f.items) (fun u _ _ h hk=>by obtain⟨au,cu,e,h⟩:=h;exact⟨au,cu,e,h.keep hk fun _ _ h=>h⟩) rfl ?_ ?_
   ·intro a2 w2 hc hk hr K hK
    have HK:=Lib.hid hK
    clear hK
    simp [Pl.Rds,zA,Pl.lk,Op.operands,Call.operands,RdEq] at hr
    obtain⟨⟨_,⟨e1,e2⟩,⟨au,cu,rfl⟩,ho⟩,e3,e4⟩:=hr
    go_simp
    exact HK.out _ _ (Keep.refl _ _) hc ⟨au,cu,rfl,ho⟩
   dsimp only [List.nil_append,List.cons_append]
   refine Pl.wgenK (fun u w9=>∃ vb au cu vt,u=.slice (some ⟨vb,0,none⟩) 1 1/\w9.heap[vb]? = some (.cells #[.slice au f.items.length cu,.slice av f.vec.length cv] vt (0,0))/\wb.heap.size<=vb/\OwnR wb.heap.size w9 (.slice au f.items.length cu) f.items) (fun u _ _ h hk=>by obtain⟨vb,au,cu,vt,e,h1,h2,h3⟩:=h;exact⟨vb,au,cu,vt,e,hk.obj h1 id,h2,h3.keep hk fun _ _ h=>h⟩) rfl ?_ ?_
   ·intro a2 w2 hc hk hr K hK
    have HK:=Lib.hid hK
    clear hK
    simp [Pl.Rds,zA,Pl.lk,Op.operands,Call.operands,RdEq] at hr
    obtain⟨_,⟨e1,e2⟩,au,cu,rfl,ho⟩:=hr
    go_simp
    refine HK.out _ _ ((Keep.refl _ _).alloc _) ⟨hc.1.alloc hc.1.size _,?_,?_,?_⟩ ⟨w2.heap.size,au,cu,_,rfl,World.alloc_heap_new w2 _,hc.1.size,ho.keep ((Keep.refl qe _).alloc _) fun _ _ h=>h⟩
    ·exact((Keep.refl qe _).alloc _).cell_some hc.2.1 id
    ·exact((Keep.refl qe _).alloc _).cell_some hc.2.2.1 id
    ·exact((Keep.refl qe _).alloc _).cell_some hc.2.2.2 id
   dsimp only [List.nil_append,List.cons_append]
   repeat (refine Pl.wdetK ?_ rfl (fun a w hc _ hr=>?_) ?_;rotate_left;(simp [Pl.Rds,zA,Pl.lk,Op.operands,Call.operands,RdEq] at hr;go_simp;with_reducible rfl);dsimp only [List.nil_append,List.cons_append])
   have hfin:∀(w2:World) (vb:Nat) (au cu) (vt:TypeId),Below wb.heap.size wb w2->w2.heap[vb]? = some (.cells #[.slice au f.items.length cu,.slice av f.vec.length cv] vt (0,0))->wb.heap.size<=vb->OwnR wb.heap.size w2 (.slice au f.items.length cu) f.items ->
    Calls Tryz.prog 171 #[.slice ad o.length cap,.int .i64 (i:Nat),.slice (some ⟨vb,0,none⟩) 1 1] w2 fun e w3=>∃ g3 cap3,e=.returned (.slice (some ⟨g3,0,none⟩) (o.length+1) cap3)/\Boxed w3 rb 143 (.slice ad o.length cap)/\OutG C (rb+1) base (w3.setCell ⟨rb,0,none⟩ (.slice (some ⟨g3,0,none⟩) (o.length+1) cap3)) (.slice (some ⟨g3,0,none⟩) (o.length+1) cap3) (qN o f)/\Keep (fun k=>k=rb\/base<=k) w w3:=by
    intro w2 vb au cu vt hB2 hvb hvb2 how
    have hout9:=(HO1.out.keep (w':=wb) hs2 fun k hk=>HB2.out.block k hk).keep (w':=w2) hB2.size fun k hk=>hB2.block k hk
    obtain⟨xs,hxs,hel⟩:=id hout9
    have hso:=(HO1.out.keep (w':=wb) hs2 fun k hk=>HB2.out.block k hk).owns
    refine(Q1 base vb vt w2 _ o.length xs _ _ i rfl rfl hi hxs hvb (fun e=>by have:=(hso vb e).2;omega) (by have:=hok.l;omega) (by have:=hB2.size;omega)).mono ?_
    rintro e w3 ⟨v',rfl,ho3,hg3,hv3⟩
    have hsz:=hB2.size
    have hp:Dat (DX C (rb+1) w2 (.slice ad o.length cap)) w2 (.slice au f.items.length cu) (rg f.items):=jp how.rd fun b o h1 h2=>⟨.inr ⟨by omega,h2⟩,fun e=>by have:=(hso b e).2;omega⟩
    have hq:Dat (DX C (rb+1) w2 (.slice ad o.length cap)) w2 (.slice av f.vec.length cv) (vp f.vec):=DX.keep HDV.out (by omega) fun k hk _=>(hB2.block k (by omega)).trans (HB2.out.block k hk)
    have hfo:=OutG.ins hi hxs.2.1 hel hp hq (fun b o h=>Nat.lt_succ_of_lt (hC b o h)) (by omega) ho3 hg3 hv3
    obtain⟨g3,cap3,cur3,rfl,_⟩:=ho3.cases.resolve_left fun h=>by omega
    have hbx3:Boxed w3 rb 143 (.slice ad o.length cap):=Boxed.kept ((hB2.block rb (by omega)).trans ((HB2.out.block rb (by omega)).trans HX1.out)) hg3 fun e=>by have:=(hso rb e.symm);have:=(hxs.1.lt rb e.symm).1;omega
    refine⟨g3,cap3,rfl,hbx3,?_,?_⟩
    ·rw [HI2.out]
     exact hfo.box (by omega) (by omega) fun b o h=>by have:=hC b o h;omega
    ·have hk1:Keep (fun k=>k=rb\/base<=k) w w1:=by rw [HW1.out];exact(Keep.refl _ w).alloc _
     exact(((hk1.trans (Keep.of_below' HB2.out (Nat.le_refl _))).trans (Keep.of_below' hB2 (Nat.le_refl _)))).grown hg3 fun k hk _=>.inr (hxs.1.lt k hk).1
   have HFIN:=Lib.hid hfin
   clear hfin
   refine⟨fun w2 hc2 hk2=>?_,fun w2 hc2 hk2=>?_⟩<;>(simp only [Pl.finG,forall_eq,List.nil_append,List.cons_append,List.take_succ_cons,List.take_zero,List.drop_succ_cons,List.drop_zero,List.drop_nil,jA,Option.map_none];simp only [Act.put,List.setIfInBounds_toArray,List.set_cons_succ,List.set_cons_zero])
   ·rintro _ ⟨au0,cu0,rfl,_⟩ _ ⟨au1,cu1,rfl,_⟩ _ ⟨vb,au,cu,vt,rfl,hvb,hvb2,how⟩
    have HQ:=Lib.hid (HFIN.out w2 vb au cu vt hc2.1 hvb hvb2 how)
    clear hvb how hc2 hk2
    go_wp2_with (first
     | (go_at_call 171;refine HQ.out.mono ?_;rintro e w3 ⟨g3,cap3,rfl,hbx3,ho3,hk3⟩
        have HO3:=Lib.hid ho3
        have HK3:=Lib.hid hk3
        have HX3:=Lib.hid hbx3
        have c9:=hbx3.cell
        have f9:=hbx3.frozen
        clear ho3 hk3 hbx3)
     | go_in)
    go_end0
    exact⟨⟨_,rfl⟩,_,HX3.out.set _,HO3.out,HK3.out.setCell (fun _=>.inl rfl) _⟩
   ·rintro _ ⟨au0,cu0,rfl,_⟩ _ ⟨au1,cu1,rfl,_⟩ _ ⟨vb,au,cu,vt,rfl,hvb,hvb2,how⟩
    have HQ:=Lib.hid (HFIN.out w2 vb au cu vt hc2.1 hvb hvb2 how)
    clear hvb how hc2 hk2
    go_wp2_with (first
     | (go_at_call 171;refine HQ.out.mono ?_;rintro e w3 ⟨g3,cap3,rfl,hbx3,ho3,hk3⟩
        have HO3:=Lib.hid ho3
        have HK3:=Lib.hid hk3
        have HX3:=Lib.hid hbx3
        have c9:=hbx3.cell
        have f9:=hbx3.frozen
        clear ho3 hk3 hbx3)
     | go_in)
    go_end0
    exact⟨⟨_,rfl⟩,_,HX3.out.set _,HO3.out,HK3.out.setCell (fun _=>.inl rfl) _⟩
end Go.Proofs.YtjimggclhlnfbaaGreatDoor
