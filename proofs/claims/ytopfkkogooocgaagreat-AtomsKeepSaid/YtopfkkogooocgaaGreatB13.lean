import Derived.Scope
import Derived.Test.YtopfkkogooocgaaGreatB10
import Derived.Test.YtopfkkogooocgaaGreatB12
set_option maxHeartbeats 16000000
set_option linter.unusedVariables false
set_option linter.unusedSimpArgs false
namespace Go.Proofs.YtopfkkogooocgaaGreat
open Go.RowKit
inductive PC where
 | sk
 | rg (l:List PI)
 | dr (h t:List PI)
 | sq (a b:PC)
 | cd (c:PO) (a b:PC)
 | bk (id:Nat) (a:PC)
 | lp (wr:List Nat) (a:PC)
 | ex (id:Nat)
 | rt
 | man (c:Code)
inductive PX where
 | n
 | x (id:Nat)
 | r
def PI.guard (i:PI) (s:PS) (yes no:PS->Prop):Prop:=match i.g with
 | none=>yes s
 | some (t,b)=>match s.get t with
   | .v (.bool c)=>(c=b->yes (s.put (some t) (.v (.bool b))))/\(c=!b->no (s.put (some t) (.v (.bool !b))))
   | .v (.tuple vs)=>vs=#[]/\no s
   | _=>False
def ze (P:Program):List PI->(PS->Prop)->PS->Prop
 | [],K,s=>K s
 | i::l,K,s=>i.guard s (fun s=>i.k.e P i.d s (ze P l K)) (fun s=>ze P l K (s.put i.d (.v undef)))
def zf (P:Program):List PI->(PS->Prop)->PS->Prop
 | [],K,s=>K s
 | i::l,K,s=>i.guard s (fun s=>i.k.q P s fun p=>p.own=none/\zf P l K (s.put i.d p)) (fun s=>zf P l K (s.put i.d (.v undef)))
def qI (h:List PI) (s:PS):PS:=h.foldl (fun s i=>s.put i.d .und) s
def qK (es:List (List PV)):Prop:=∀ e ∈ es,∀ p ∈ e,∃ x:Value,p=.v x
def x4 (n:Nat):PV->Prop
 | .v _=>True
 | .sl es (.r m sz)=>m≠n/\qK es/\∀ e ∈ es,e.length=sz
 | _=>False
def keepOk (h:List PI) (n:Nat) (s0:PS) (keep:List Nat):Prop:=
 (∀ j ∈ keep,(h.all fun i=>!(i.d == some j))=true/\x4 n (s0.get j))/\keep.Pairwise fun i j=>(s0.get i).own=none\/(s0.get i).own≠(s0.get j).own
def qZ (P:Program) (fr:Prop) (h:List PI) (s0:PS) (t:List PI) (K:PS->Prop) (s:PS):Prop:=match t with
 | ⟨some d,none,.ap (.t x) y sz by_⟩::t'=>match s.get x with
   | .sl es (.n sz')=>sz'=sz/\(h.any fun i=>i.d == some x)=true/\QA (s.ev y) fun es'=>qK es/\qK es'/\(∀ e ∈ es,e.length=sz)/\(∀ e ∈ es',e.length=sz)/\(es.length+es'.length) * by_<=140737488355328/\es'≠[]/\ze P t' K ((qI h s0).put (some d) (.sl (es++es') (.r d sz)))
   | .sl es (.p i)=>fr/\(h.any fun i=>i.d == some x)=true/\(match s0.get i with
     | .sl es0 (.r n sz')=>sz'=sz/\QA (s.ev y) fun es'=>(∀ e ∈ es,e.length=sz)/\(∀ e ∈ es',e.length=sz)/\(es.length+es'.length) * by_<=140737488355328/\es'≠[]/\(((qK es/\qK es')/\∃ keep,keepOk h n s0 keep/\ze P t' K ⟨(d,.sl (es++es') (.r n sz))::keep.map (fun j=>(j,s0.get j)),[]⟩) \/
       ((h.all fun y=>!(y.d == some i))=true/\s.get i=s0.get i/\es0=es/\(s.put (some x) (.sl es (.r n sz))).ev y=s.ev y/\ze P t' K (((s.put (some x) (.sl es (.r n sz))).down n).put (some d) (.sl (es++es') (.r n sz)))))
     | _=>False)
   | _=>ze P t K s
 | _=>ze P t K s
def JU (nb:Nat):PV->Bool
 | .bx i _=>decide (i<nb)
 | _=>true
def zbe (nb:Nat):PV->Bool
 | .bx i _=>decide (i<nb)
 | .fn _ fs cs=>fs.all (JU nb) && cs.all (JU nb)
 | _=>true
inductive SubP (nb:Nat):PV->PV->Prop where
 | und (p:PV):SubP nb p .und
 | eq (p:PV) (h:zbe nb p=true):SubP nb p p
 | sh (p:PV) (h:zbe nb p=true):SubP nb p p.sh
 | nil (n sz:Nat):SubP nb (.sl [] .z) (.sl [] (.r n sz))
def SubT (nb:Nat) (t:List (Nat × PV)):List (Nat × PV)->Prop
 | []=>True
 | (i,q)::r=>SubP nb (yr t i) q/\SubT nb t r
inductive SubB (nb:Nat):List (List PV)->List (List PV)->Prop where
 | nil (l:List (List PV)):SubB nb l []
 | cons (cs cs':List PV) (l l':List (List PV)) (h:cs.length=cs'.length) (hc:∀(j:Nat) p q,cs[j]? = some p->cs'[j]? = some q->SubP nb p q) (hl:SubB nb l l'):SubB nb (cs::l) (cs'::l')
def YQ (s s':PS):Prop:=SubT s'.b.length s.t s'.t/\SubB s'.b.length s.b s'.b
def kL (K:PS->Prop) (Q:PX->PS->Prop):PX->PS->Prop
 | .n,s=>K s
 | e,s=>Q e s
def jM (id:Nat) (Q:PX->PS->Prop):PX->PS->Prop
 | .x id',s=>if id'=id then Q .n s else Q (.x id') s
 | e,s=>Q e s
def RA (B:Bs) (nt:Nat) (g:Gh) (s:PS) (a:Act) (w:World):Prop:=R B g s (zB a) w/\a.defers=B.df/\a.tmps.size=nt
def QL (B:Bs) (nt:Nat) (Q:PX->PS->Prop):Exit->Act->World->Prop
 | .normal,a,w=>∃ s g,RA B nt g s a w/\Q .n s
 | .exit id,a,w=>∃ s g,RA B nt g s a w/\Q (.x id) s
 | .ret,a,w=>∃ s g,RA B nt g s a w/\Q .r s
 | _,_,_=>False
def pLoop (body:(PX->PS->Prop)->PS->Prop) (Q:PX->PS->Prop) (s:PS):Prop:=
 ∃(ι:Type) (J:ι->Prop) (S:ι->PS) (m:ι->Nat) (i0:ι),J i0/\YQ s (S i0)/\∀ i,J i->body (kL (fun s'=>∃ j,J j/\m j<m i/\YQ s' (S j)) Q) (S i)
def pW (P:Program) (nt:Nat) (fr:Prop):PC->(PX->PS->Prop)->PS->Prop
 | .sk,Q,s=>Q .n s
 | .rg l,Q,s=>ze P l (Q .n) s
 | .dr h t,Q,s=>zf P h (qZ P fr h s.clean t (Q .n)) s.clean
 | .sq a b,Q,s=>pW P nt fr a (kL (pW P nt fr b Q) Q) s
 | .cd c a b,Q,s=>qV (s.ev c) fun t=>(t=true->pW P nt fr a Q s)/\(t=false->pW P nt fr b Q s)
 | .bk id a,Q,s=>pW P nt fr a (jM id Q) s
 | .lp _ a,Q,s=>pLoop (pW P nt fr a) Q s
 | .ex id,Q,s=>Q (.x id) s
 | .rt,Q,s=>Q .r s
 | .man c,Q,s=>∀ B g a w,RA B nt g s a w->c.wp P (QL B nt Q) a w
def vd (nt:Nat):Option Nat->Bool
 | some d=>decide (d<nt)
 | none=>true
def zI (P:Program) (nt:Nat) (ops:Array Oper):List Oper->Option (List PI)
 | []=>some []
 | o::l=>(XR P o).bind fun k=>(zI P nt ops l).bind fun r=>
   if vd nt o.dst=true then
    match o.guard with
    | none=>some (⟨o.dst,none,k⟩::r)
    | some (j,b)=>(zJ ops j).bind fun t=>if t<nt then some (⟨o.dst,some (t,b),k⟩::r) else none
   else none
def wrK:PK->Bool
 | .st _ _ _ | .al _ | .bo _=>true
 | _=>false
def ko (l:List PI):Nat:=
 let n0:=(l.takeWhile fun i=>!wrK i.k).length
 let n1:=match l.reverse with
  | ⟨_,_,.ap _ _ _ _⟩::_=>l.length - 1
  | _::⟨_,_,.ap _ _ _ _⟩::_=>l.length - 2
  | _=>l.length
 min n0 n1
def Jv (P:Program) (nt:Nat) (l:List Oper):Option PC:=(zI P nt l.toArray l).bind fun is=>
 if xk l.toArray (ko is) nt && yK l.toArray (ko is) then some (.dr (is.take (ko is)) (is.drop (ko is))) else none
def zh6 (o:Oper):Bool:=match o.op with
 | .store _ _ _ | .alloc _ | .box _ _=>true
 | _=>false
def Zr:List Oper->List Tmp->List Nat->Nat->List Nat
 | [],_,js,_=>js.reverse
 | o::l,ts,js,i=>
   if zh6 o || (zA o).any ts.contains || (match o.guard with | some (j,_)=>js.contains j | none=>false) || o.after.any (fun e=>Region.binds .any e && js.contains e.on)
   then Zr l (match o.dst with | some d=>d::ts | none=>ts) (i::js) (i+1) else Zr l ts js (i+1)
def zk4 (l:List Oper):List Nat:=let js:=Zr l [] [] 0;(List.range l.length).filter (fun i=>!js.contains i)++js
def zct (P:Program) (nt:Nat) (l:List Oper):Option PC:=(zI P nt l.toArray l).bind fun is=>
 match is.drop (ko is) with
 | ⟨some _,none,.al _⟩::_=>if xk l.toArray (ko is+1) nt && yK l.toArray (ko is+1) then some (.dr (is.take (ko is)) (is.drop (ko is))) else none
 | _=>none
def zeQ (ops:Array Oper) (nh nt:Nat):Bool:=
 decide (nh+2<=ops.size) &&
 ((List.range (nh+1)).all fun i=>
   match ops[i]? with
   | none=>false
   | some o=>((zA o).all (yB ops (nh+1) i)) &&
     (match o.guard with | none=>true | some (j,_)=>decide (j<i) && edge ops i j && (zJ ops j).isSome) &&
     (match o.dst with | none=>true | some d=>decide (d<nt) && (List.range (nh+1)).all fun j=>decide (j=i) || !(zJ ops j == some d))) &&
 ((List.range nh).all fun i=>(List.range (nh+2)).any fun j=>decide (i<j) && decide (j≠nh) && edge ops j i) &&
 (decide (nh+2=ops.size) || edge ops (nh+2) nh)
def jY (d:Nat):PO->Bool
 | .t i=>!(i == d)
 | _=>true
def zkX (l:List Oper) (j d:Nat):Bool:=match l[j]? with
 | some o=>!(zA o).contains d
 | none=>false
def Jw (P:Program) (nt m:Nat) (l:List Oper):Option PC:=(zI P nt l.toArray l).bind fun is=>
 match is.drop m with
 | ⟨some d,none,.al zs⟩::⟨some d',none,.ex x i⟩::⟨none,none,.st a b n⟩::t=>
   if zeQ l.toArray (m+1) nt && yK l.toArray (m+2) && !(d == d') && jY d' a && jY d' b && jY d x && zkX l (m+1) d
   then some (.dr (is.take m++[⟨some d',none,.ex x i⟩]) (⟨some d,none,.al zs⟩::⟨none,none,.st a b n⟩::t)) else none
 | _=>none
def zkn (o:Oper):Bool:=match o.op with
 | .extract _ _=>true
 | _=>false
def zfU (l:List Oper) (j:Nat):List Nat:=let js:=Zr l [] [] 0;(List.range l.length).filter (fun i=>!js.contains i && !(i == j))++js.take 1++[j]++js.drop 1
def zgQ (l:List Oper) (j:Nat):Bool:=match l[j]? with
 | some o=>zkn o
 | none=>false
def YZ (P:Program) (nt:Nat) (l:List Oper) (j:Nat):Option PC:=if zgQ l j && q9 l.length (zfU l j) then Jw P nt ((zfU l j).length - (Zr l [] [] 0).length - 1) (z8 l (zfU l j)) else none
def KM (P:Program) (nt:Nat) (l:List Oper):List Nat->Option PC
 | []=>none
 | j::r=>match YZ P nt l j with
   | some x=>some x
   | none=>KM P nt l r
def QI:PK->Bool
 | .ex _ _=>true
 | .ln _=>true
 | .bin _ _ _=>true
 | .sc _ _ _ _=>true
 | .cv _ _=>true
 | .not _=>true
 | _=>false
def zck (ops:Array Oper) (nh r nt:Nat):Bool:=
 decide (1<=r) && decide (nh+r+1<=ops.size) &&
 ((List.range (nh+r)).all fun i=>
   match ops[i]? with
   | none=>false
   | some o=>((zA o).all (yB ops (nh+r) i)) &&
     (match o.guard with | none=>true | some (j,_)=>decide (j<i) && edge ops i j && (zJ ops j).isSome) &&
     (match o.dst with | none=>true | some d=>decide (d<nt) && (List.range (nh+r)).all fun j=>decide (j=i) || !(zJ ops j == some d))) &&
 ((List.range nh).all fun i=>(List.range (nh+r+1)).any fun j=>decide (i<j) && !(decide (nh<=j) && decide (j<nh+r)) && edge ops j i) &&
 ((List.range (nh+r)).all fun i=>!(decide (nh<=i) && decide (i+1<nh+r)) || edge ops (i+1) i) &&
 (decide (nh+r+1=ops.size) || edge ops (nh+r+1) (nh+r - 1))
def zcU (a b:PO) (i:PI):Bool:=i.g.isNone && QI i.k && (match i.d with | some d=>jY d a && jY d b | none=>true)
def zcw (P:Program) (nt m r:Nat) (l:List Oper):Option PC:=(zI P nt l.toArray l).bind fun is=>
 match is.drop (m+r) with
 | ⟨none,none,.st a b n⟩::t=>
   if zck l.toArray m r nt && yK l.toArray (m+r) && ((is.drop m).take r).all (zcU a b) then some (.dr (is.take (m+r)) (⟨none,none,.st a b n⟩::t)) else none
 | _=>none
def zfj (l:List Oper):List Nat:=let js:=Zr l [] [] 0;(List.range l.length).filter fun i=>!js.contains i && !(edge l.toArray (js.headD 0) i)
def zis (l:List Oper):List Nat:=let js:=Zr l [] [] 0;(List.range l.length).filter (fun i=>!js.contains i && !(zfj l).contains i)++zfj l++js
def zcv (P:Program) (nt:Nat) (l:List Oper):Option PC:=if q9 l.length (zis l) then zcw P nt (l.length - (Zr l [] [] 0).length - (zfj l).length) (zfj l).length (z8 l (zis l)) else none
def YW (P:Program) (nt:Nat) (l:List Oper):Option PC:=match Jv P nt l with
 | some x=>some x
 | none=>zct P nt l
def zcu (P:Program) (nt:Nat) (l:List Oper):Option PC:=match YW P nt l with
 | some x=>some x
 | none=>match (if q9 l.length (zk4 l) then YW P nt (z8 l (zk4 l)) else none) with
   | some x=>some x
   | none=>match zcv P nt l with
     | some x=>some x
     | none=>KM P nt l (List.range l.length)
def qx (P:Program) (nt:Nat) (ms:List Nat):Code->Option PC
 | .skip=>some .sk
 | .label _=>some .sk
 | .region id ops draw=>if ms.contains id then some (.man (.region id ops draw)) else
   match draw with
   | false=>(zI P nt ops ops.toList).map .rg
   | true=>if P.follows .mixedOrders then zcu P nt ops.toList else none
 | .seq a b=>(qx P nt ms a).bind fun x=>(qx P nt ms b).map fun y=>.sq x y
 | .cond c a b=>(po c).bind fun c=>(qx P nt ms a).bind fun x=>(qx P nt ms b).map fun y=>.cd c x y
 | .block id a=>(qx P nt ms a).map (.bk id)
 | .loop a=>(qx P nt ms a).map (.lp [])
 | .exit id=>some (.ex id)
 | .ret=>some .rt
 | .scope a=>qx P nt ms a
 | _=>none
variable {P:Program} {B:Bs} {nt:Nat} {g:Gh} {s:PS} {a:Act} {w:World} {D:Nat->Nat->Prop} {ρ:Nat->Nat} {nb:Nat}
theorem Rel1.low {nb':Nat} {u:Value} {p:PV} (h:Rel1 D ρ nb w u p) (hl:JU nb' p=true):Rel1 D ρ nb' w u p:=by
 rcases h with h | ⟨i,o,rfl,hi,rfl⟩
 ·exact .inl h
 ·exact .inr ⟨i,o,rfl,by simpa [JU] using hl,rfl⟩
theorem Rel.low {nb':Nat} {u:Value} {p:PV} (h:Rel D ρ nb w u p) (hl:zbe nb' p=true):Rel D ρ nb' w u p:=by
 rcases h with h | ⟨f,va,vb,fs,cs,rfl,rfl,h3,h4,h5,h6⟩
 ·refine .inl (h.low ?_)
  cases p<;>first | rfl | exact hl
 ·simp only [zbe,Bool.and_eq_true,List.all_eq_true] at hl
  exact .inr ⟨f,va,vb,fs,cs,rfl,rfl,h3,h4,fun i q hq=>(h5 i q hq).low (hl.1 q (List.mem_of_getElem? hq)),fun i q hq=>(h6 i q hq).low (hl.2 q (List.mem_of_getElem? hq))⟩
theorem zgY {u:Value} (h:Rel D ρ nb w u (.sl [] .z)):∃ ad,u=.slice ad 0 0:=by
 obtain⟨ad,cap,sz,b,off,f,e,h1,h2,_⟩:=h.inv_sl
 have:=h2 rfl
 exact⟨ad,by rw [e,this];rfl⟩
theorem SubP.rel {nb':Nat} {u:Value} {p q:PV} (h:SubP nb' p q) (hr:Rel D ρ nb w u p):Rel D ρ nb' w u q:=by
 cases h with
 | und=>exact .dat (.und _)
 | eq _ h=>exact hr.low h
 | sh _ h=>exact hr.sh.low (by cases p<;>first | rfl | exact h)
 | nil n sz=>
   obtain⟨ad,rfl⟩:=zgY hr
   exact .dat (.sl ad 0 1 [] _ 0 0 (fun _=>undef) (Nat.le_refl _) (fun h=>by cases h) (Nat.zero_le _) (fun h=>absurd rfl h) (fun i e h=>by simp at h) (fun j h=>absurd h (by simp)) (fun i e j p h=>by simp at h))
theorem SubP.own {nb':Nat} {u:Value} {p q:PV} (h:SubP nb' p q) (hr:Rel D ρ nb w u p) (ho:q.own≠none):q=p\/(zc u=none/\∀ D W w,yW D W w u q):=by
 cases h with
 | und=>exact absurd rfl ho
 | eq _ h=>exact .inl rfl
 | sh _ h=>exact absurd p.sh_own ho
 | nil n sz=>
   obtain⟨ad,rfl⟩:=zgY hr
   exact .inr ⟨by cases ad<;>rfl,fun _ _ _=>.inl ⟨ad,rfl,rfl⟩⟩
theorem SubT.get {t:List (Nat × PV)}:∀ {t':List (Nat × PV)},SubT nb t t'->∀ i,SubP nb (yr t i) (yr t' i)
 | [],_,i=>.und _
 | (j,q)::r,h,i=>by
   by_cases e:j=i
   ·subst e
    simp only [yr,if_true]
    exact h.1
   ·simp only [yr,if_neg e]
    exact SubT.get h.2 i
theorem SubB.get {l l':List (List PV)} (h:SubB nb l l'):l'.length<=l.length/\∀(i:Nat) cs',l'[i]? = some cs'->∃ cs:List PV,l[i]? = some cs/\cs.length=cs'.length/\∀(j:Nat) p q,cs[j]? = some p->cs'[j]? = some q->SubP nb p q:=by
 induction h with
 | nil l=>exact⟨by simp,fun i cs' h=>by simp at h⟩
 | cons cs cs' l l' h hc hl ih=>
   refine⟨by simpa using ih.1,fun i cs2 hi=>?_⟩
   cases i with
   | zero=>simp at hi;subst hi;exact⟨cs,rfl,h,hc⟩
   | succ i=>simpa using ih.2 i cs2 (by simpa using hi)
theorem R.weak {s':PS} {x:Nat->Value} (h:R B g s x w) (hs:YQ s s'):R B g s' x w:=by
 obtain⟨hlen,hB⟩:=hs.2.get
 have hT:=hs.1.get
 have hsl:∀ u q,zQ g s' x w u q->∃ p,zQ g s x w u p/\SubP s'.b.length p q:=by
  rintro u q (⟨t,rfl,rfl⟩ | ⟨i,j,cs',h1,h2,h3⟩)
  ·exact⟨_,h.slot t,hT t⟩
  ·obtain⟨cs,e1,e2,e3⟩:=hB i cs' h1
   have hj:j<cs.length:=by rw [e2];exact(List.getElem?_eq_some_iff.1 h2).1
   exact⟨cs[j],.inr ⟨i,j,cs,e1,List.getElem?_eq_getElem hj,h3⟩,e3 j _ _ (List.getElem?_eq_getElem hj) h2⟩
 refine⟨fun t=>(hT t).rel (h.slots t),?_,fun i j hi hj=>h.inj i j (by omega) (by omega),?_,?_,?_,h.dlt,fun i hi=>h.dbox i (by omega),h.fr⟩
 ·intro i cs' hi
  obtain⟨cs,e1,e2,e3⟩:=hB i cs' hi
  obtain⟨hW,vs,e,hv,hz,hb⟩:=h.boxes i cs e1
  refine⟨hW,vs,e,hv,hz.trans e2,fun j q hq=>?_⟩
  have hj:j<cs.length:=by rw [e2];exact(List.getElem?_eq_some_iff.1 hq).1
  have:=hb j _ (List.getElem?_eq_getElem hj)
  exact⟨(e3 j _ _ (List.getElem?_eq_getElem hj) hq).rel this.1,this.2⟩
 ·intro u q hq
  by_cases ho:q.own=none
  ·exact zr ho
  ·obtain⟨p,h1,h2⟩:=hsl u q hq
   rcases h2.own (h.slot_rel h1) ho with rfl | ⟨_,hk⟩
   ·exact h.owns u q h1
   ·exact hk _ _ _
 ·intro u q u' q' b h1 h2 o1 o2 b1 b2
  obtain⟨p,k1,k2⟩:=hsl u q h1
  obtain⟨p',k3,k4⟩:=hsl u' q' h2
  rcases k2.own (h.slot_rel k1) o1 with rfl | ⟨hk,_⟩
  ·rcases k4.own (h.slot_rel k3) o2 with rfl | ⟨hk,_⟩
   ·exact h.disj _ _ _ _ b k1 k3 o1 o2 b1 b2
   ·rw [hk] at b2;cases b2
  ·rw [hk] at b1;cases b1
 ·intro u q b i h1 o1 b1 hi
  obtain⟨p,k1,k2⟩:=hsl u q h1
  rcases k2.own (h.slot_rel k1) o1 with rfl | ⟨hk,_⟩
  ·exact h.ownbox _ _ b i k1 o1 b1 (by omega)
  ·rw [hk] at b1;cases b1
theorem RA.weak {s':PS} (h:RA B nt g s a w) (hs:YQ s s'):RA B nt g s' a w:=⟨h.1.weak hs,h.2⟩
theorem zD (a:Act) (d:Option Nat) (u:Value):(a.put d u).tmps.size=a.tmps.size/\(a.put d u).defers=a.defers:=by cases d<;>simp [Act.put]
theorem ZT {c b:Bool} (h:¬ c=b):c=!b:=by cases c<;>cases b<;>first | rfl | exact absurd rfl h
theorem RA.fix (h:RA B nt g s a w) {t:Nat} {b:Bool} (ht:t<a.tmps.size) (hv:a.tmps.getD t undef=.bool b):RA B nt g (s.put (some t) (.v (.bool b))) a w:=by
 have e:QO (zB a) (some t) (.bool b)=zB a:=by
  funext i
  by_cases h:t=i
  ·subst h;rw [kN];exact hv.symm
  ·rw [QP _ _ h]
 refine⟨?_,h.2⟩
 have:=h.1.put (some t) (u:=.bool b) (p:=.v (.bool b)) (.dat (.v _)) (.none rfl)
 rw [e] at this;exact this
def EqS (s s':PS):Prop:=(∀ t,s.get t=s'.get t)/\s.b=s'.b
theorem EqS.refl (s:PS):EqS s s:=⟨fun _=>rfl,rfl⟩
theorem EqS.put {s s':PS} (h:EqS s s') (d:Option Nat) (p:PV):EqS (s.put d p) (s'.put d p):=by
 cases d with
 | none=>exact h
 | some d=>
   refine⟨fun t=>?_,h.2⟩
   by_cases e:d=t
   ·subst e;rw [zF,zF]
   ·rw [zV _ _ e,zV _ _ e];exact h.1 t
theorem EqS.fix {s s':PS} (h:EqS s s') {t:Nat} {p:PV} (hp:s'.get t=p):EqS (s.put (some t) p) s':=by
 refine⟨fun i=>?_,h.2⟩
 by_cases e:t=i
 ·subst e;rw [zF];exact hp.symm
 ·rw [zV _ _ e];exact h.1 i
theorem RA.eqS {s s':PS} (h:RA B nt g s a w) (e:EqS s' s):RA B nt g s' a w:=by
 obtain⟨t,b⟩:=s
 obtain⟨t',b'⟩:=s'
 obtain⟨e1,e2⟩:=e
 simp only at e2
 subst e2
 obtain⟨⟨h1,h2,h3,h4,h5,h6,h7,h8,h9⟩,hd⟩:=h
 have hs:∀ u p,zQ g ⟨t',b'⟩ (zB a) w u p->zQ g ⟨t,b'⟩ (zB a) w u p:=fun u p h=>by
  rcases h with⟨i,rfl,rfl⟩ | h
  ·exact .inl ⟨i,rfl,e1 i⟩
  ·exact .inr h
 exact⟨⟨fun i=>by rw [e1 i];exact h1 i,h2,h3,fun u p h=>h4 u p (hs u p h),fun u p u' p' b k1 k2=>h5 u p u' p' b (hs _ _ k1) (hs _ _ k2),fun u p b i k=>h6 u p b i (hs _ _ k),h7,h8,h9⟩,hd⟩
theorem list_sound {ops:Array Oper} {Q:PX->PS->Prop}:∀(l:List Oper) (is:List PI) (s:PS) (g:Gh) (a:Act) (w:World),zI P nt ops l=some is->ze P is (Q .n) s->RA B nt g s a w ->
 wpList P ops (QL B nt Q) l a w
 | [],is,s,g,a,w,hc,hq,h=>by
   cases hc
   exact⟨s,g,h,hq⟩
 | o::l,is,s,g,a,w,hc,hq,h=>by
   simp only [zI,Option.bind_eq_some_iff] at hc
   obtain⟨k,hk,r,hr,hc⟩:=hc
   split at hc
   ·rename_i hd
    have hd':∀ t,o.dst=some t->t<a.tmps.size:=fun t ht=>by
     rw [ht] at hd
     rw [h.2.2];simpa [vd] using hd
    -- the operation,carried out
    have run:∀ s,RA B nt g s a w->k.e P o.dst s (ze P r (Q .n))->o.wp P a w (wpList P ops (QL B nt Q) l) (QL B nt Q):=fun s h he=>by
     refine ZO hk hd' h.1 he _ _ fun s' g' u w' h1 h2=>?_
     exact list_sound l r s' g' _ w' hr h1 ⟨h2,by rw [(zD _ _ _).2];exact h.2.1,by rw [(zD _ _ _).1];exact h.2.2⟩
    have skip:∀ s,RA B nt g s a w->ze P r (Q .n) (s.put o.dst (.v undef))->wpList P ops (QL B nt Q) l (a.put o.dst undef) w:=fun s h he=>by
     refine list_sound l r _ g _ w hr he ⟨?_,by rw [(zD _ _ _).2];exact h.2.1,by rw [(zD _ _ _).1];exact h.2.2⟩
     rw [zN hd']
     exact h.1.put o.dst (.dat (.v _)) (.none rfl)
    unfold wpList
    split at hc
    ·rename_i hg
     cases hc
     simp only [Region.wanted,hg,if_true]
     exact .inl (run s h hq)
    ·rename_i j b hg
     simp only [Option.bind_eq_some_iff] at hc
     obtain⟨t,ht,hc⟩:=hc
     split at hc
     ·rename_i htn
      cases hc
      have hts:t<a.tmps.size:=by rw [h.2.2];exact htn
      have hy:=yS ht hts
      simp only [ze,PI.guard] at hq
      have hrel:=h.1.slots t
      split at hq
      ·rename_i c e
       rw [e] at hrel
       have hv:a.tmps.getD t undef=.bool c:=hrel.v_inv
       rw [hv] at hy
       by_cases hcb:c=b
       ·subst hcb
        rw [if_pos (by simp [Region.wanted,hg,hy])]
        exact .inl (run _ (h.fix hts hv) (hq.1 rfl))
       ·rw [if_neg (by simp [Region.wanted,hg,hy,hcb])]
        have hneg:=ZT hcb
        exact skip _ (h.fix hts (by rw [hv,hneg])) (hq.2 hneg)
      ·rename_i vs e
       rw [e] at hrel
       have hv:a.tmps.getD t undef=.tuple vs:=hrel.v_inv
       rw [hv] at hy
       rw [if_neg (by simp [Region.wanted,hg,hy])]
       exact skip _ h hq.2
      ·exact hq.elim
     ·cases hc
   ·cases hc
def VN (x0:Nat->Value) (n0:Nat) (D:Nat->Nat->Prop) (ρ:Nat->Nat) (nb:Nat) (p:PV):VP:=fun u w=>Rel D ρ nb w u p/\NewOk x0 n0 w u p
def qq (x0:Nat->Value) (n0:Nat) (D:Nat->Nat->Prop) (ρ:Nat->Nat) (nb:Nat) (ps:List (Option Nat × PV)):List (Option Tmp × VP):=ps.map fun y=>(y.1,VN x0 n0 D ρ nb y.2)
def zy (s:PS) (ps:List (Option Nat × PV)):PS:=ps.foldl (fun s y=>s.put y.1 y.2) s
def ke (ps:List (Option Nat × PV)):Prop:=ps.Pairwise fun x y=>x.1=none\/x.1≠y.1
theorem zaq (s:PS) (d:Option Nat) (p:PV):(s.put d p).b=s.b:=by cases d<;>rfl
theorem qp:∀(ps:List (Option Nat × PV)) (s:PS),(zy s ps).b=s.b
 | [],_=>rfl
 | (d,p)::ps,s=>(qp ps (s.put d p)).trans (zaq s d p)
theorem qt {t:Nat}:∀(ps:List (Option Nat × PV)) (s:PS),(∀ x ∈ ps,x.1≠some t)->(zy s ps).get t=s.get t
 | [],_,_=>rfl
 | (d,p)::ps,s,h=>by
   have h1:=qt ps (s.put d p) fun x hx=>h x (by simp [hx])
   have h2:=h (d,p) (by simp)
   rw [show zy s ((d,p)::ps)=zy (s.put d p) ps from rfl,h1]
   cases d with
   | none=>rfl
   | some d=>exact zV s p fun e=>h2 (by rw [e])
theorem kZ {x0:Nat->Value} {n0 t:Nat}:∀(ps:List (Option Nat × PV)) (s:PS),ke ps->(∃ p,(some t,p) ∈ ps/\lk (qq x0 n0 D ρ nb ps) t=some (VN x0 n0 D ρ nb p)/\(zy s ps).get t=p)\/(lk (qq x0 n0 D ρ nb ps) t=none/\(zy s ps).get t=s.get t)
 | [],s,_=>.inr ⟨rfl,rfl⟩
 | (d,p)::ps,s,h=>by
   have h':=List.pairwise_cons.1 h
   by_cases e:d=some t
   ·subst e
    refine .inl ⟨p,by simp,by simp [qq,lk],?_⟩
    rw [show zy s ((some t,p)::ps)=zy (s.put (some t) p) ps from rfl,qt]
    ·exact zF s t p
    ·intro x hx e
     rcases h'.1 x hx with h1 | h1
     ·cases h1
     ·exact h1 e.symm
   ·rcases kZ (t:=t) ps (s.put d p) h'.2 with⟨q,h1,h2,h3⟩ | ⟨h1,h2⟩
    ·exact .inl ⟨q,by simp [h1],by simpa [qq,lk,e] using h2,h3⟩
    ·refine .inr ⟨by simpa [qq,lk,e] using h1,?_⟩
     rw [show zy s ((d,p)::ps)=zy (s.put d p) ps from rfl,h2]
     cases d with
     | none=>rfl
     | some d=>exact zV s p fun e'=>e (by rw [e'])
theorem YK (s:PS) (ps:List (Option Nat × PV)) (d:Option Nat) (p:PV):zy s (ps++[(d,p)])=(zy s ps).put d p:=by simp [zy,List.foldl_append]
theorem JC {x0:Nat->Value} {n0:Nat} (ps:List (Option Nat × PV)) (d:Option Nat) (p:PV):qq x0 n0 D ρ nb (ps++[(d,p)])=qq x0 n0 D ρ nb ps++[(d,VN x0 n0 D ρ nb p)]:=by simp [qq]
theorem qu {w w':World} (h:Keep qe w w'):Below w.heap.size w w':=h.below (Nat.le_refl _) fun _ _=>id
theorem Rel.nob {w w':World} {u:Value} {p:PV} (h:Rel D ρ nb w u p) (hk:Keep qe w w'):Rel D ρ nb w' u p:=h.mono (fun _ _ h=>h) (fun b o x _ hx=>qa (qu hk) (qF hx) hx) (Nat.le_refl _) fun _ _=>rfl
theorem kS {x0:Nat->Value} {n0:Nat} {F:Act->World->Prop} {D':Nat->Nat->Prop}:∀(ps:List (Option Nat × PV)) (s:PS) (a:Act),ke ps->(∀ x ∈ ps,x.2.own=none)->(∀ x ∈ ps,∀ d,x.1=some d->d<nt)->(∀ b o,(D b o/\b<w.heap.size)->D' b o)->RA B nt ⟨D',ρ⟩ s a w->s.b.length=nb ->
 (∀ a',RA B nt ⟨D',ρ⟩ (zy s ps) a' w->(∀ t p,(some t,p) ∈ ps->NewOk x0 n0 w (zB a' t) p)->(∀ t,(∀ x ∈ ps,x.1≠some t)->zB a' t=zB a t)->F a' w)->finG F w (qq x0 n0 D ρ nb ps) a
 | [],s,a,_,_,_,_,h,_,hF=>hF a h (fun t p h=>by cases h) fun _ _=>rfl
 | (none,p)::ps,s,a,h0,h1,h2,h3,h,hb,hF=>kS ps s a (List.pairwise_cons.1 h0).2 (fun x hx=>h1 x (by simp [hx])) (fun x hx=>h2 x (by simp [hx])) h3 h hb fun a' k1 k2 k3=>hF a' k1 (fun t q hq=>k2 t q (by
     rcases List.mem_cons.1 hq with hq | hq
     ·cases hq
     ·exact hq)) (fun t ht=>k3 t fun x hx=>ht x (by simp [hx]))
 | (some d,p)::ps,s,a,h0,h1,h2,h3,h,hb,hF=>by
   intro u hu
   have hd:=h2 (some d,p) (by simp) d rfl
   have h0':=List.pairwise_cons.1 h0
   have hda:d<a.tmps.size:=by rw [h.2.2];exact hd
   have hsl:zB (a.put (some d) u)=QO (zB a) (some d) u:=zN (by intro t ht;cases ht;exact hda)
   have hnd:∀ x ∈ ps,x.1≠some d:=fun x hx e=>by
    rcases h0'.1 x hx with h | h
    ·cases h
    ·exact h e.symm
   refine kS ps (s.put (some d) p) _ h0'.2 (fun x hx=>h1 x (by simp [hx])) (fun x hx=>h2 x (by simp [hx])) h3 ⟨?_,by rw [(zD _ _ _).2];exact h.2.1,by rw [(zD _ _ _).1];exact h.2.2⟩ (by rw [zaq];exact hb) fun a' k1 k2 k3=>hF a' k1 (fun t q hq=>?_) fun t ht=>?_
   ·rw [hsl]
    have hu':Rel D ρ nb w u p:=hu.1
    refine h.1.put (some d) ?_ (.none (h1 (some d,p) (by simp)))
    rw [hb]
    exact hu'.restrict.mono h3 (fun _ _ _ _ h=>h) (Nat.le_refl _) fun _ _=>rfl
   ·rcases List.mem_cons.1 hq with hq | hq
    ·cases hq
     rw [k3 d hnd,hsl,kN]
     exact hu.2
    ·exact k2 t q hq
   ·rw [k3 t fun x hx=>ht x (by simp [hx]),hsl]
    exact QP _ _ fun e=>ht (some d,p) (by simp) (by rw [e])
theorem R.slotsU {s:PS} {x x':Nat->Value} (h:R B g s x w) (hx:∀ t,s.get t=.und\/x' t=x t):R B g s x' w:=by
 have hs:∀ u p,zQ g s x' w u p->p.own≠none->zQ g s x w u p:=fun u p hp ho=>by
  rcases hp with⟨t,rfl,rfl⟩ | hp
  ·rcases hx t with h | h
   ·rw [h] at ho;exact absurd rfl ho
   ·exact .inl ⟨t,h,rfl⟩
  ·exact .inr hp
 refine⟨fun t=>?_,h.boxes,h.inj,fun u p hp=>?_,fun u p u' p' b k1 k2 o1 o2=>h.disj u p u' p' b (hs _ _ k1 o1) (hs _ _ k2 o2) o1 o2,fun u p b i k o1=>h.ownbox u p b i (hs _ _ k o1) o1,h.dlt,h.dbox,h.fr⟩
 ·rcases hx t with h' | h'
  ·rw [h'];exact .dat (.und _)
  ·rw [h'];exact h.slots t
 ·by_cases ho:p.own=none
  ·exact zr ho
  ·exact h.owns _ _ (hs _ _ hp ho)
theorem Z6:∀(h:List PI) (s:PS) (t:Nat),(qI h s).get t=.und\/((qI h s).get t=s.get t/\∀ i ∈ h,i.d≠some t)
 | [],s,t=>.inr ⟨rfl,fun i h=>by cases h⟩
 | i::h,s,t=>by
   rcases Z6 h (s.put i.d .und) t with e | ⟨e,k⟩
   ·exact .inl e
   ·by_cases hd:i.d=some t
    ·left
     rw [show qI (i::h) s=qI h (s.put i.d .und) from rfl,e,hd,zF]
    ·right
     refine⟨?_,fun j hj=>?_⟩
     ·rw [show qI (i::h) s=qI h (s.put i.d .und) from rfl,e]
      cases hdd:i.d with
      | none=>rfl
      | some d=>exact zV s .und fun e'=>hd (by rw [hdd,e'])
     ·rcases List.mem_cons.1 hj with rfl | hj
      ·exact hd
      ·exact k j hj
theorem yM:∀(h:List PI) (s:PS),(qI h s).b=s.b
 | [],_=>rfl
 | i::h,s=>(yM h (s.put i.d .und)).trans (zaq s i.d .und)
theorem R.forget {h:List PI} {s:PS} {x x':Nat->Value} (hR:R B g s x w) (hx:∀ t,(∀ i ∈ h,i.d≠some t)->x' t=x t):R B g (qI h s) x' w:=by
 have hg:∀ t,(Go.Proofs.YtopfkkogooocgaaGreat.qI h s).get t=.und\/((Go.Proofs.YtopfkkogooocgaaGreat.qI h s).get t=s.get t/\∀ i ∈ h,i.d≠some t):=Z6 h s
 have r1:R B g (Go.Proofs.YtopfkkogooocgaaGreat.qI h s) x w:=by
  have hs:∀ u p,zQ g (Go.Proofs.YtopfkkogooocgaaGreat.qI h s) x w u p->p.own≠none->zQ g s x w u p:=fun u p hp ho=>by
   rcases hp with⟨t,rfl,rfl⟩ | hp
   ·rcases hg t with h | h
    ·rw [h] at ho;exact absurd rfl ho
    ·exact .inl ⟨t,rfl,h.1⟩
   ·rw [yM] at hp;exact .inr hp
  refine⟨fun t=>?_,fun i cs hi=>?_,fun i j=>by rw [yM];exact hR.inj i j,fun u p hp=>?_,fun u p u' p' b k1 k2 o1 o2=>hR.disj u p u' p' b (hs _ _ k1 o1) (hs _ _ k2 o2) o1 o2,fun u p b i k o1 b1 hi=>hR.ownbox u p b i (hs _ _ k o1) o1 b1 (by rw [yM] at hi;exact hi),hR.dlt,fun i hi=>hR.dbox i (by rw [yM] at hi;exact hi),hR.fr⟩
  ·rw [yM]
   rcases hg t with h' | h'
   ·rw [h'];exact .dat (.und _)
   ·rw [h'.1];exact hR.slots t
  ·rw [yM] at hi ⊢;exact hR.boxes i cs hi
  ·by_cases ho:p.own=none
   ·exact zr ho
   ·exact hR.owns _ _ (hs _ _ hp ho)
 refine r1.slotsU fun t=>?_
 rcases hg t with h' | h'
 ·exact .inl h'
 ·exact .inr (hx t h'.2)
theorem kj {D':Nat->Nat->Prop} {w':World} {sz:Nat} {vs:List Value} {es:List (List PV)} (h:RowD D w sz vs es) (hf:qK es):RowD D' w' sz vs es:=by
 refine⟨h.1,h.2.1,h.2.2.1,fun i e j p h1 h2=>?_⟩
 obtain⟨x,rfl⟩:=hf e (List.mem_of_getElem? h1) p (List.mem_of_getElem? h2)
 have:=h.2.2.2 i e j _ h1 h2
 generalize vs.getD (i * sz+j) undef=u at this ⊢
 cases this
 exact .v _
theorem zmh {o:Oper} {x y:Operand} {t e:TypeId} {i:TypeInfo} {z:Value} {n0:Nat} (h:ApOp P o x y t e i z) {es es':List (List PV)} {k:Ow} (hx:Rel D ρ nb w (a.eval x) (.sl es (.n i.size))) {x0:Nat->Value} (hN:NewOk x0 n0 w (a.eval x) (.sl es (.n i.size))) (hy:Rel D ρ nb w (a.eval y) (.sl es' k)) (hn0:n0<=w.heap.size)
 (h1:∀ e ∈ es,e.length=i.size) (h2:∀ e ∈ es',e.length=i.size) (hby:(es.length+es'.length) * i.bytes<=140737488355328) (hne:es'≠[]) :
 ∃ g' cap' cs e' vs w',(execOp a.eval o).run P w=.ok (.value (.slice (some ⟨g',0,none⟩) (es++es').length cap')) w'/\n0<=g'/\Below n0 w w'/\w'.heap[g']? = some (.cells cs e' (0,0))/\(es++es').length<=cap'/\cap'<=maxLen/\cs.size=cap' * i.size /\
  RowD D w i.size vs (es++es')/\∀ j,j<vs.length->cs[j]? = some (vs.getD j undef):=by
 obtain⟨ad,cap,vs,e1,c1,c2,_,r1,g1⟩:=x5 hx h1
 obtain⟨ad',cap',vs',e2,d1,d2,_,r2,g2⟩:=x5 hy h2
 obtain⟨b',off',rfl,g3⟩:=g2 hne
 have hpos:0<es'.length:=List.length_pos_iff.2 hne
 have hnew:∀ j v,vs'[j]? = some v->w.cell? ((⟨b',off',none⟩:Addr).add j)=some v:=fun j v hv=>by rw [zh];exact(g3 j v hv).2
 have hold:es.length≠0->∃ b,ad=some b/\∀ j v,vs[j]? = some v->w.cell? (b.add j)=some v:=fun hn=>by
  obtain⟨b,off,rfl,g4⟩:=g1 (by intro e;subst e;simp at hn)
  exact⟨_,rfl,fun j v hv=>by rw [zh];exact(g4 j v hv).2⟩
 have grow:cap<es.length+es'.length->(ad=none->cap=0)->∃ g' cap' cs e' vs w',(execOp a.eval o).run P w=.ok (.value (.slice (some ⟨g',0,none⟩) (es++es').length cap')) w'/\n0<=g'/\Below n0 w w'/\w'.heap[g']? = some (.cells cs e' (0,0))/\(es++es').length<=cap'/\cap'<=maxLen/\cs.size=cap' * i.size /\
  RowD D w i.size vs (es++es')/\∀ j,j<vs.length->cs[j]? = some (vs.getD j undef):=fun hcap hnil=>by
  obtain⟨cp,cs,hr,k1,k2,k3,k4⟩:=yJ (P:=P) (w:=w) (ty:=o.type) (c:=cap') h.ht h.hi h.hz h.hzs h.hb r1.1 r2.1 hold hnil hnew hcap hby
  refine⟨w.heap.size,cp,cs,e,vs++vs',_,by rw [List.length_append];exact h.run e1 e2 hr,hn0,(qk w _).mono hn0,World.alloc_heap_new w.drew _,by simpa using k1,k2,k3,r1.append r2,k4⟩
 rcases hN with⟨ad2,hu⟩ | ⟨g',cp,cur,e',hg,hu,hh,hcs⟩
 ·rw [e1] at hu
  injection hu with h5 h6 h7
  refine grow (by omega) fun hn=>?_
  by_cases he:es=[]
  ·subst he;simpa using h7
  ·obtain⟨b,off,e,_⟩:=g1 he;rw [hn] at e;cases e
 ·rw [e1] at hu
  injection hu with h5 h6 h7
  subst h5
  subst h7
  by_cases hroom:es.length+es'.length<=cap
  ·have hfit:es.length * i.size+vs'.length<=cur.size:=by rw [r2.1,hcs,<-Nat.add_mul];exact Nat.mul_le_mul_right _ hroom
   have hr:=vm (P:=P) (w:=w) (ty:=o.type) (c:=cap') h.ht h.hi hh r2.1 hnew (Xv r2) hroom hfit
   obtain⟨new,hnw⟩:∃ new,(cur.toList.take (es.length * i.size)++vs'++cur.toList.drop (es.length * i.size+vs'.length)).toArray=new:=⟨_,rfl⟩
   rw [hnw] at hr
   have hvl:vs.length=es.length * i.size:=r1.1
   refine⟨g',cap,new,e',vs++vs',w.setRow g' new,by rw [List.length_append];exact h.run e1 e2 hr,hg,⟨rfl,rfl,rfl,by simp,fun k hk=>setRow_other w _ _ new (by omega)⟩,setRow_heap w g' cur new e' (0,0) hh,by simpa using hroom,c2,by rw [<-hcs,<-hnw];simp;omega,r1.append r2,fun j hj=>?_⟩
   have ht:(cur.toList.take (es.length * i.size)).length=es.length * i.size:=by simp;omega
   rw [<-hnw]
   simp only [List.getElem?_toArray]
   rw [List.length_append] at hj
   rw [List.getD_eq_getElem?_getD,List.append_assoc]
   by_cases h1:j<es.length * i.size
   ·have hj2:j<vs.length:=by omega
    have hes:es.length≠0:=by intro e;rw [e] at h1;omega
    obtain⟨b,eb,hb⟩:=hold hes
    cases eb
    have:=hb j _ (List.getElem?_eq_getElem hj2)
    rw [zh] at this
    simp only [World.cell?,hh,Nat.zero_add] at this
    rw [List.getElem?_append_left (by omega),List.getElem?_take,if_pos h1,List.getElem?_append_left hj2,List.getElem?_eq_getElem hj2]
    simpa using this
   ·rw [List.getElem?_append_right (by omega),ht,List.getElem?_append_left (by omega),List.getElem?_append_right (by omega),hvl]
    have hj2:j - es.length * i.size<vs'.length:=by omega
    rw [List.getElem?_eq_getElem hj2]
    rfl
  ·exact grow (by omega) fun h=>by cases h
theorem JS {x0:Nat->Value} {n0 t:Nat}:∀(ps:List (Option Nat × PV)) (p:PV),(some t,p) ∈ ps->lk (qq x0 n0 D ρ nb ps) t≠none
 | y::ps,p,h=>by
   by_cases e:y.1=some t
   ·simp [qq,lk,e]
   ·rcases List.mem_cons.1 h with h | h
    ·rw [<-h] at e;exact absurd rfl e
    ·have:=JS (x0:=x0) (n0:=n0) ps p h
     simpa [qq,lk,e] using this
theorem Z8 {ops:Array Oper} {Q:Exit->Act->World->Prop} {F:Act->World->Prop} {s0:PS} {a0:Act} {w0:World} {nh:Nat} (hchk:xk ops nh nt=true) {K:PS->Prop}
 (h0:∀ w,Keep qe w0 w->∀ t,Rel D ρ s0.b.length w (a0.tmps.getD t undef) (s0.get t)) (hbox:∀ w,Keep qe w0 w->∀(i:Nat) cs,s0.b[i]? = some cs->zaA ⟨D,ρ⟩ s0.b.length w i cs) (hgl:∀ w,Keep qe w0 w->GL D w) (hnew:∀ b o,w0.heap.size<=b->D b o) (hcl:∀ t,(s0.get t).isN=false)
 (hF:∀ ps w,Keep qe w0 w->ke ps->ps.length=nh->(∀(j:Nat) x,ps[j]? = some x->x.1=zJ ops j)->(∀ x ∈ ps,x.2.own=none)->(∀ x ∈ ps,∀ d,x.1=some d->d<nt)->(∃ s',EqS s' (zy s0 ps)/\K s')->finG F w (qq (zB a0) w0.heap.size D ρ s0.b.length ps) a0) :
 ∀(l:List Oper) (is:List PI) (ps:List (Option Nat × PV)) (s':PS),EqS s' (zy s0 ps)->zI P nt ops l=some is->ps.length+l.length=nh->(∀ j,j<l.length->ops[ps.length+j]? = l[j]?)->(∀(j:Nat) x,ps[j]? = some x->x.1=zJ ops j)->ke ps->(∀ x ∈ ps,x.2.own=none) ->
  zf P is K s'->walkG qe (xC P Q) a0 w0 (fun w=>Keep qe w0 w) F l (qq (zB a0) w0.heap.size D ρ s0.b.length ps)
 | [],is,ps,s',hE,hc,hl,ho,hd,hdd,hown,hq=>by
   cases hc
   intro w hw _
   refine hF ps w hw hdd (by simpa using hl) hd hown (fun x hx d hxd=>?_) ⟨s',hE,hq⟩
   obtain⟨j,hj⟩:=List.getElem?_of_mem hx
   have hjn:j<nh:=by have:=(List.getElem?_eq_some_iff.1 hj).1;simp at hl;omega
   obtain⟨o,ho,_,_,h3,_⟩:=yb hchk hjn
   have:=hd j x hj
   rw [hxd] at this
   unfold zJ at this
   rw [ho] at this
   exact(h3 d this.symm).1
 | o::l,is,ps,s',hE,hc,hl,ho,hd,hdd,hown,hq=>by
   simp only [zI,Option.bind_eq_some_iff] at hc
   obtain⟨k,hk,r,hr,hc⟩:=hc
   split at hc
   ·rename_i hdk
    simp only [List.length_cons] at hl
    have hi:ps.length<nh:=by omega
    obtain⟨o',ho',_,hgd,hds,_⟩:=yb hchk hi
    have hoo:o'=o:=by
     have:=ho 0 (by simp)
     simp only [Nat.add_zero,List.getElem?_cons_zero] at this
     rw [this] at ho'
     exact(Option.some.inj ho').symm
    subst hoo
    -- going on
    have next:∀(s':PS) (p:PV),EqS s' (zy s0 ps)->p.own=none->zf P r K (s'.put o'.dst p)->walkG qe (xC P Q) a0 w0 (fun w=>Keep qe w0 w) F l (qq (zB a0) w0.heap.size D ρ s0.b.length ps++[(o'.dst,VN (zB a0) w0.heap.size D ρ s0.b.length p)]):=fun s' p hE hp hq'=>by
     rw [<-JC]
     refine Z8 hchk h0 hbox hgl hnew hcl hF l r (ps++[(o'.dst,p)]) (s'.put o'.dst p) (by rw [YK];exact hE.put _ _) hr (by simp;omega) (fun j hj=>?_) (fun j x hj=>?_) ?_ (fun x hx=>?_) hq'
     ·have:=ho (j+1) (by simpa using hj)
      simp only [List.getElem?_cons_succ] at this
      rw [<-this]
      congr 1
      simp;omega
     ·rcases Nat.lt_or_ge j ps.length with h' | h'
      ·rw [List.getElem?_append_left h'] at hj;exact hd j x hj
      ·rw [List.getElem?_append_right h'] at hj
       have e:j - ps.length=0:=by have:=(List.getElem?_eq_some_iff.1 hj).1;simp at this;omega
       rw [e] at hj
       simp at hj
       subst hj
       have:j=ps.length:=by omega
       subst this
       unfold zJ;rw [ho'];rfl
     ·refine List.pairwise_append.2 ⟨hdd,by simp,fun x hx y hy=>?_⟩
      simp at hy
      subst hy
      obtain⟨j,hj⟩:=List.getElem?_of_mem hx
      cases hxd:x.1 with
      | none=>exact .inl rfl
      | some d=>
        refine .inr fun e=>?_
        have hjl:=(List.getElem?_eq_some_iff.1 hj).1
        have:=(hds d e.symm).2 j (by omega) ((hd j x hj).symm.trans hxd)
        omega
     ·rcases List.mem_append.1 hx with hx | hx
      ·exact hown x hx
      ·simp at hx;subst hx;exact hp
    -- what is read
    have rd:∀ s',EqS s' (zy s0 ps)->∀ a w,Keep qe w0 w->Rds (qq (zB a0) w0.heap.size D ρ s0.b.length ps) a0 (zA o') a w->Rd D ρ s' (zB a) (zA o') w:=fun s' hE a w hw hrds=>by
     refine⟨fun t ht=>?_,fun i cs hcs=>?_,hgl _ hw⟩
     ·rw [hE.2,qp,hE.1]
      revert ht
      generalize zA o'=ts at hrds ⊢
      induction ts with
      | nil=>intro ht;cases ht
      | cons t' ts ih=>
        intro ht
        obtain⟨h1,h2⟩:=hrds
        rcases List.mem_cons.1 ht with rfl | ht
        ·rcases kZ (x0:=zB a0) (n0:=w0.heap.size) (D:=D) (ρ:=ρ) (nb:=s0.b.length) (t:=t) ps s0 hdd with⟨p,_,e1,e2⟩ | ⟨e1,e2⟩
         ·rw [e1] at h1
          obtain⟨u,hu,hv⟩:=h1
          rw [e2]
          have:zB a t=u:=hu.2.1
          rw [this];exact hv.1
         ·rw [e1] at h1
          rw [e2]
          have:zB a t=a0.tmps.getD t undef:=h1.2.1
          rw [this];exact h0 w hw t
        ·exact ih h2 ht
     ·rw [hE.2,qp] at hcs ⊢
      exact hbox w hw i cs hcs
    have nw:∀ s',EqS s' (zy s0 ps)->∀ a w,Keep qe w0 w->Rds (qq (zB a0) w0.heap.size D ρ s0.b.length ps) a0 (zA o') a w->zbZ (zB a0) w0.heap.size s' (zB a) (zA o') w:=fun s' hE a w hw hrds=>by
     refine⟨hw.size,fun t ht=>?_⟩
     rw [hE.1]
     revert ht
     generalize zA o'=ts at hrds ⊢
     induction ts with
     | nil=>intro ht;cases ht
     | cons t' ts ih=>
       intro ht
       obtain⟨h1,h2⟩:=hrds
       rcases List.mem_cons.1 ht with rfl | ht
       ·rcases kZ (x0:=zB a0) (n0:=w0.heap.size) (D:=D) (ρ:=ρ) (nb:=s0.b.length) (t:=t) ps s0 hdd with⟨p,hp0,e1,e2⟩ | ⟨e1,e2⟩
        ·rw [e1] at h1
         obtain⟨u,hu,hv⟩:=h1
         rw [e2]
         have:zB a t=u:=hu.2.1
         rw [this]
         exact⟨hv.2,fun ho=>absurd (hown _ hp0) ho⟩
        ·rw [e1] at h1
         rw [e2]
         have:zB a t=a0.tmps.getD t undef:=h1.2.1
         exact⟨xA (hcl t),fun _=>this.symm⟩
       ·exact ih h2 ht
    have run:∀ s',EqS s' (zy s0 ps)->(k.q P s' fun p=>p.own=none/\zf P r K (s'.put o'.dst p))->∃ p:PV,p.own=none/\headOk qe (xC P Q) a0 w0 (fun w=>Keep qe w0 w) (qq (zB a0) w0.heap.size D ρ s0.b.length ps) o' (VN (zB a0) w0.heap.size D ρ s0.b.length p)/\zf P r K (s'.put o'.dst p):=fun s' hE hk2=>by
     obtain⟨p,h1,h2⟩:=zat k _ hk2
     obtain⟨hp,h1⟩:=h1
     refine⟨p,hp,?_,h1⟩
     intro a w hc hk3 hr2 K2 hK2
     obtain⟨p',rfl,_,hq3⟩:=y9 hk (rd s' hE a w hk3 hr2) h2
     refine hq3 K2 Q fun u w' hb hrel hnw=>?_
     have hk4:Keep qe w w':=Keep.of_below' hb (Nat.le_refl _)
     refine hK2 u w' hk4 (hc.trans hk4) ?_
     rw [hE.2,qp] at hrel
     refine⟨hrel.mono (fun b o h=>?_) (fun _ _ _ _ h=>h) (Nat.le_refl _) fun _ _=>rfl,hnw _ _ (nw s' hE a w hk3 hr2)⟩
     rcases h with h | h
     ·exact h
     ·exact hnew b o (Nat.le_trans hk3.size h)
    have yes:∀ s',EqS s' (zy s0 ps)->(k.q P s' fun p=>p.own=none/\zf P r K (s'.put o'.dst p))->∀ hst:∀ V:VP,headOk qe (xC P Q) a0 w0 (fun w=>Keep qe w0 w) (qq (zB a0) w0.heap.size D ρ s0.b.length ps) o' V->stepOk qe (xC P Q) a0 w0 (fun w=>Keep qe w0 w) (qq (zB a0) w0.heap.size D ρ s0.b.length ps) o' V,
     walkG qe (xC P Q) a0 w0 (fun w=>Keep qe w0 w) F (o'::l) (qq (zB a0) w0.heap.size D ρ s0.b.length ps):=fun s' hE hk2 hst=>by
     obtain⟨p,h1,h2,h3⟩:=run s' hE hk2
     exact⟨_,fun u w w' h hk=>⟨h.1.nob hk,h.2.mono (Nat.le_refl _) fun k hk'=>hk.block k hk' fun h=>h⟩,hst _ h2,next s' p hE h1 h3⟩
    have no:∀ s',EqS s' (zy s0 ps)->zf P r K (s'.put o'.dst (.v undef))->∀ hst:stepOk qe (xC P Q) a0 w0 (fun w=>Keep qe w0 w) (qq (zB a0) w0.heap.size D ρ s0.b.length ps) o' (fun u _=>u=undef),
     walkG qe (xC P Q) a0 w0 (fun w=>Keep qe w0 w) F (o'::l) (qq (zB a0) w0.heap.size D ρ s0.b.length ps):=fun s' hE hk2 hst=>by
     have hV:VN (zB a0) w0.heap.size D ρ s0.b.length (.v undef)=fun(u:Value) (_:World)=>u=undef:=by
      funext u w
      exact propext ⟨fun h=>h.1.v_inv,fun h=>by subst h;exact⟨.dat (.v _),trivial⟩⟩
     have:=next s' (.v undef) hE rfl hk2
     rw [hV] at this
     exact⟨_,fun u w w' h hk=>h,hst,this⟩
    split at hc
    ·rename_i hg
     cases hc
     exact yes s' hE hq fun V hV=>by unfold stepOk;rw [hg];exact hV
    ·rename_i j b hg
     simp only [Option.bind_eq_some_iff] at hc
     obtain⟨t,ht,hc⟩:=hc
     split at hc
     ·rename_i htn
      cases hc
      obtain⟨hji,_,_⟩:=hgd j b hg
      have hget:∃ p,(qq (zB a0) w0.heap.size D ρ s0.b.length ps)[j]? = some (some t,VN (zB a0) w0.heap.size D ρ s0.b.length p)/\(zy s0 ps).get t=p:=by
       have hx:=List.getElem?_eq_getElem hji
       have hdx:=hd j _ hx
       rw [ht] at hdx
       have hm:ps[j]=(some t,ps[j].2):=Prod.ext hdx rfl
       refine⟨ps[j].2,by unfold qq;rw [List.getElem?_map,hx,hm];rfl,?_⟩
       rcases kZ (x0:=zB a0) (n0:=w0.heap.size) (D:=D) (ρ:=ρ) (nb:=s0.b.length) (t:=t) ps s0 hdd with⟨p,hp1,_,e2⟩ | ⟨e1,_⟩
       ·obtain⟨j',hj'⟩:=List.getElem?_of_mem hp1
        have hj'l:=(List.getElem?_eq_some_iff.1 hj').1
        obtain⟨oj,hoj,_,_,hdj,_⟩:=yb hchk (show j<nh by omega)
        have:j'=j:=(hdj t (by have:=ht;unfold zJ at this;rw [hoj] at this;exact this)).2 j' (by omega) (hd j' _ hj').symm
        subst this
        rw [hx] at hj'
        simp only [Option.some.injEq] at hj'
        rw [e2,hj']
       ·exfalso
        have hmem:(some t,ps[j].2) ∈ ps:=by rw [<-hm];exact List.getElem_mem hji
        exact JS ps _ hmem e1
      obtain⟨p,hp1,hp2⟩:=hget
      simp only [zf,PI.guard] at hq
      split at hq
      ·rename_i c e
       rw [hE.1,hp2] at e
       subst e
       by_cases hcb:c=b
       ·subst hcb
        refine yes _ (hE.fix hp2) (hq.1 rfl) fun V hV=>?_
        unfold stepOk
        rw [hg]
        refine .inl ⟨?_,hV⟩
        unfold isV;rw [hp1];exact fun u w h=>h.1.v_inv
       ·have hneg:=ZT hcb
        refine no _ (hE.fix (by rw [hp2,hneg])) (hq.2 hneg) ?_
        unfold stepOk
        rw [hg]
        refine .inr ⟨.inl ?_,rfl⟩
        unfold isV;rw [hp1]
        intro u w h
        rw [<-hneg];exact h.1.v_inv
      ·rename_i vs e
       rw [hE.1,hp2] at e
       subst e
       obtain⟨rfl,hq⟩:=hq
       refine no s' hE hq ?_
       unfold stepOk
       rw [hg]
       refine .inr ⟨.inr ?_,rfl⟩
       unfold isV;rw [hp1]
       exact fun u w h=>h.1.v_inv
      ·exact hq.elim
     ·cases hc
   ·cases hc
def klS (s:PS) (keep:List Nat):PS:=⟨keep.map fun j=>(j,s.get j),[]⟩
theorem kV (s:PS) (t:Nat):∀ keep:List Nat,(klS s keep).get t=if t ∈ keep then s.get t else .und
 | []=>rfl
 | j::l=>by
   have ih:=kV s t l
   show yr ((j,s.get j)::l.map fun j=>(j,s.get j)) t=_
   by_cases e:j=t
   ·subst e;simp [yr]
   ·have e':¬ t=j:=fun h=>e h.symm
    simp only [yr,if_neg e,List.mem_cons,e',false_or]
    exact ih
theorem R.kl {n:Nat} {s:PS} {x x':Nat->Value} (h:R B g s x w) (keep:List Nat) (hsm:∀ j ∈ keep,x4 n (s.get j)) (hx:∀ j ∈ keep,x' j=x j):R B g (klS s keep) x' w:=by
 have hs:∀ u p,zQ g (klS s keep) x' w u p->p.own≠none->zQ g s x w u p:=fun u p hp ho=>by
  rcases hp with⟨t,rfl,rfl⟩ | ⟨i,j,cs,h1,_⟩
  ·rw [kV] at ho ⊢
   split at ho
   ·rename_i hm;rw [if_pos hm];exact .inl ⟨t,hx t hm,rfl⟩
   ·exact absurd rfl ho
  ·simp [klS] at h1
 refine⟨fun t=>?_,fun i cs hi=>by simp [klS] at hi,fun i j hi=>by simp [klS] at hi,fun u p hp=>?_,fun u p u' p' b k1 k2 o1 o2=>h.disj u p u' p' b (hs _ _ k1 o1) (hs _ _ k2 o2) o1 o2,fun u p b i k o1 b1 hi=>by simp [klS] at hi,h.dlt,fun i hi=>by simp [klS] at hi,h.fr⟩
 ·rw [kV]
  split
  ·rename_i hm
   rw [hx t hm]
   have hrel:=h.slots t
   have hs1:=hsm t hm
   have:(s.get t).isD=true:=by
    revert hs1
    cases s.get t<;>intro h<;>first | rfl | exact h.elim
   exact .dat (hrel.data this)
  ·exact .dat (.und _)
 ·by_cases ho:p.own=none
  ·exact zr ho
  ·exact h.owns _ _ (hs _ _ hp ho)
theorem ze1 {fr:Prop} {o:Oper} {x y:Operand} {t e:TypeId} {ti:TypeInfo} {z:Value} {w':World} {a':Act} {es es0 es':List (List PV)} {n i len cap d:Nat} {k:Ow} {keep:List Nat} {ad:Option Addr} {D2:Nat->Nat->Prop} {x0:Nat->Value}
 (hfr1:fr) (hfr:fr->∀ k,¬ B.Sb k) (h:R B g s x0 w) (hb:Below w.heap.size w w') (hA:ApOp P o x y t e ti z) (hxv:a'.eval x=.slice ad es.length cap) (hry:Rel D2 ρ nb w' (a'.eval y) (.sl es' k)) (hsi:s.get i=.sl es0 (.r n ti.size)) (p1:x0 i=.slice ad len cap)
 (hrx:Rel D2 ρ nb w' (.slice ad es.length cap) (.sl es (.p i))) (f1:qK es) (f2:qK es') (f3:∀ e ∈ es,e.length=ti.size) (f4:∀ e ∈ es',e.length=ti.size) (f5:(es.length+es'.length) * ti.bytes<=140737488355328) (f6:es'≠[])
 (hpw:keep.Pairwise fun i j=>(s.get i).own=none\/(s.get i).own≠(s.get j).own) (hsm:∀ j ∈ keep,x4 n (s.get j)) (hdsts:∀ j ∈ keep,zB a' j=x0 j) :
 ∃ g2 w2 u,(execOp a'.eval o).run P w'=.ok (.value u) w2/\R B g2 ⟨(d,.sl (es++es') (.r n ti.size))::keep.map (fun j=>(j,s.get j)),[]⟩ (QO (zB a') (some d) u) w2:=by
 obtain⟨ad1,cap1,vs,e1,c1,c2,_,r1,g1⟩:=x5 (sz:=ti.size) hrx f3
 injection e1 with q1 q2 q3
 subst q1
 subst q3
 obtain⟨ad',cap',vs',e2,d1,d2,_,r2,g2⟩:=x5 hry f4
 obtain⟨b',off',rfl,g3⟩:=g2 f6
 have hpos:0<es'.length:=List.length_pos_iff.2 f6
 have hne:es++es'≠[]:=fun e=>f6 (List.append_eq_nil_iff.1 e).2
 have hflat:qK (es++es'):=fun e he=>by
  rcases List.mem_append.1 he with he | he
  ·exact f1 e he
  ·exact f2 e he
 have hnew:∀ j v,vs'[j]? = some v->w'.cell? ((⟨b',off',none⟩:Addr).add j)=some v:=fun j v hv=>by rw [zh];exact(g3 j v hv).2
 have hold:es.length≠0->∃ b,ad=some b/\∀ j v,vs[j]? = some v->w'.cell? (b.add j)=some v:=fun hn=>by
  obtain⟨b,off,rfl,g4⟩:=g1 (by intro e;subst e;simp at hn)
  exact⟨_,rfl,fun j v hv=>by rw [zh];exact(g4 j v hv).2⟩
 have hkl:=h.kl keep hsm hdsts
 have hown:=h.owns _ _ (h.slot i)
 have hslot:=h.slot i
 rw [hsi] at hown
 rw [p1] at hown
 have grow:cap<es.length+es'.length->(ad=none->cap=0)->∃ g2 w2 u,(execOp a'.eval o).run P w'=.ok (.value u) w2/\R B g2 ⟨(d,.sl (es++es') (.r n ti.size))::keep.map (fun j=>(j,s.get j)),[]⟩ (QO (zB a') (some d) u) w2:=fun hcap hnil=>by
  obtain⟨cp,cs,hr,k1,k2,k3,k4⟩:=yJ (P:=P) (w:=w') (ty:=o.type) (c:=cap') hA.ht hA.hi hA.hz hA.hzs hA.hb r1.1 r2.1 hold hnil hnew hcap f5
  obtain⟨g5,hR⟩:=hkl.fresh (n0:=n) (hb.trans ((qk w' (.cells cs e)).mono hb.size)) (g':=w'.heap.size) hb.size (World.alloc_heap_new w'.drew (.cells cs e)) (kj (r1.append r2) hflat) k4 (by simpa using k1) k2 k3 hne (some d)
  rw [List.length_append] at hR
  exact⟨g5,_,_,hA.run hxv e2 hr,hR⟩
 rcases hown with⟨ad2,hz,hes0⟩ | ⟨gg,cap2,cur,e',hu,hW,hh,hcs,hel,hnD⟩
 ·injection hz with r1' r2' r3'
  exact grow (by omega) fun _=>r3'
 ·injection hu with r1' r2' r3'
  subst r1'
  subst r3'
  by_cases hroom:es.length+es'.length<=cap
  ·have hlt:gg<w.heap.size:=(Array.getElem?_eq_some_iff.1 hh).1
   have hh':w'.heap[gg]? = some (.cells cur e' (0,0)):=(hb.block gg hlt).trans hh
   have hfit:es.length * ti.size+vs'.length<=cur.size:=by rw [r2.1,hcs,<-Nat.add_mul];exact Nat.mul_le_mul_right _ hroom
   have hr:=vm (P:=P) (w:=w') (ty:=o.type) (c:=cap') hA.ht hA.hi hh' r2.1 hnew (Xv r2) hroom hfit
   obtain⟨new,hnw⟩:∃ new,(cur.toList.take (es.length * ti.size)++vs'++cur.toList.drop (es.length * ti.size+vs'.length)).toArray=new:=⟨_,rfl⟩
   rw [hnw] at hr
   have hvl:vs.length=es.length * ti.size:=r1.1
   have hcap0:cap≠0:=by omega
   have hblk:zc (x0 i)=some gg:=by
    rw [p1]
    cases cap with
    | zero=>exact absurd rfl hcap0
    | succ c=>rfl
   have hnsz:new.size=cap * ti.size:=by rw [<-hcs,<-hnw];simp;omega
   have hrow:∀ j,j<(vs++vs').length->new[j]? = some ((vs++vs').getD j undef):=fun j hj=>by
    have ht:(cur.toList.take (es.length * ti.size)).length=es.length * ti.size:=by simp;omega
    rw [<-hnw]
    simp only [List.getElem?_toArray]
    rw [List.length_append] at hj
    rw [List.getD_eq_getElem?_getD,List.append_assoc]
    by_cases h1:j<es.length * ti.size
    ·have hj2:j<vs.length:=by omega
     obtain⟨b,eb,hbb⟩:=hold (by intro e;rw [e] at h1;omega)
     cases eb
     have:=hbb j _ (List.getElem?_eq_getElem hj2)
     rw [zh] at this
     simp only [World.cell?,hh',Nat.zero_add] at this
     rw [List.getElem?_append_left (by omega),List.getElem?_take,if_pos h1,List.getElem?_append_left hj2,List.getElem?_eq_getElem hj2]
     simpa using this
    ·rw [List.getElem?_append_right (by omega),ht,List.getElem?_append_left (by omega),List.getElem?_append_right (by omega),hvl]
     have hj2:j - es.length * ti.size<vs'.length:=by omega
     rw [List.getElem?_eq_getElem hj2]
     rfl
   have hSb:=hfr hfr1
   have hWge:∀ b,B.W b->B.w0.heap.size<=b:=fun b hb=>hb.resolve_right (hSb b)
   -- another owner's slice lies elsewhere
   have kget:∀ j,j ∈ keep->(klS s keep).get j=s.get j:=fun j hj=>by rw [kV,if_pos hj]
   have kown:∀ j,((klS s keep).get j).own≠none->j ∈ keep:=fun j ho=>by
    rw [kV] at ho
    split at ho
    ·assumption
    ·exact absurd rfl ho
   have kne:∀ j,((klS s keep).get j).own≠none->zc (zB a' j)≠some gg:=fun j ho e=>by
    have hj:=kown j ho
    have h1:=h.disj _ _ _ _ gg (h.slot j) hslot (by rw [<-kget j hj];exact ho) (by rw [hsi];simp [PV.own]) (by rw [<-hdsts j hj];exact e) hblk
    rw [hsi] at h1
    have h2:=hsm j hj
    revert h1 h2
    cases s.get j<;>intro h1 h2<;>try cases h1
    rename_i es1 ow
    cases ow<;>try cases h1
    exact h2.1 rfl
   have ksame:∀ j j',((klS s keep).get j).own≠none->((klS s keep).get j').own≠none->((klS s keep).get j).own=((klS s keep).get j').own->j=j':=fun j j' h1 h2 h3=>by
    have hj:=kown j h1
    have hj':=kown j' h2
    rw [kget j hj] at h1 h3
    rw [kget j' hj'] at h2 h3
    rcases Nat.lt_trichotomy j j' with hlt | heq | hlt
    all_goals first | exact heq | skip
    all_goals
     exfalso
     obtain⟨m1,hm1⟩:=List.getElem?_of_mem hj
     obtain⟨m2,hm2⟩:=List.getElem?_of_mem hj'
     have hl1:=(List.getElem?_eq_some_iff.1 hm1)
     have hl2:=(List.getElem?_eq_some_iff.1 hm2)
     have hp:=List.pairwise_iff_getElem.1 hpw
     rcases Nat.lt_trichotomy m1 m2 with hm | hm | hm
     ·have:=hp m1 m2 hl1.1 hl2.1 hm
      rw [hl1.2,hl2.2] at this
      rcases this with h | h
      ·exact h1 h
      ·exact h h3
     ·subst hm;rw [hm1] at hm2;cases hm2;omega
     ·have:=hp m2 m1 hl2.1 hl1.1 hm
      rw [hl1.2,hl2.2] at this
      rcases this with h | h
      ·exact h2 h
      ·exact h h3.symm
   have hblkw:∀ k,k<w.heap.size->k≠gg->(w'.setRow gg new).heap[k]? = w.heap[k]?:=fun k hk hne=>(setRow_other w' _ _ new hne).trans (hb.block k hk)
   -- what is read from now on
   obtain⟨D3,hD3⟩:∃ D3:Nat->Nat->Prop,D3=fun b o=>B.D0 b o\/(b=gg/\o<(vs++vs').length)\/∃(j:Nat) (e4:List (List PV)) (sz m:Nat),(klS s keep).get j=.sl e4 (.r m sz)/\zc (zB a' j)=some b/\o<e4.length * sz:=⟨_,rfl⟩
   have hsl:∀ u p,zQ ⟨D3,g.ρ⟩ (klS s keep) (zB a') (w'.setRow gg new) u p->∃ j,u=zB a' j/\p=(klS s keep).get j:=fun u p hp=>by
    rcases hp with hp | ⟨i,j,cs,h1,_⟩
    ·exact hp
    ·simp [klS] at h1
   have hkown:∀ j,yW g.D B.W w (zB a' j) ((klS s keep).get j):=fun j=>hkl.owns _ _ (hkl.slot j)
   have hRk:R B ⟨D3,g.ρ⟩ (klS s keep) (zB a') (w'.setRow gg new):=by
    refine⟨fun j=>?_,fun i cs hi=>by simp [klS] at hi,fun i j hi=>by simp [klS] at hi,fun u p hp=>?_,fun u p u' p' b h1 h2 o1 o2 b1 b2=>?_,fun u p b i _ _ _ hi=>by simp [klS] at hi,fun b o hD=>?_,fun i hi=>by simp [klS] at hi,?_⟩
    ·have hrel:=hkl.slots j
     by_cases hj:j ∈ keep
     ·have h2:=hsm j hj
      rw [<-kget j hj] at h2
      have ho:=hkown j
      have hne2:=kne j
      have hthird:∀(e4:List (List PV)) (sz m:Nat),(klS s keep).get j=.sl e4 (.r m sz)->∀ b,zc (zB a' j)=some b->∀ o,o<e4.length * sz->D3 b o:=fun e4 sz m h1 b h2 o h3=>by rw [hD3];exact .inr (.inr ⟨j,e4,sz,m,h1,h2,h3⟩)
      revert h2 ho hrel hne2 hthird
      cases (klS s keep).get j<;>intro hrel h2 ho hne2 hthird<;>try exact h2.elim
      ·rw [hrel.v_inv];exact .dat (.v _)
      ·rename_i e4 ow
       cases ow<;>try exact h2.elim
       rename_i m sz
       obtain⟨_,hf,hl4⟩:=h2
       rcases ho with⟨ad3,hz,rfl⟩ | ⟨g4,cap4,cur4,e5,hu4,hW4,hh4,hcs4,hel4,hnD4⟩
       ·rw [hz]
        exact .dat (.sl ad3 0 1 [] _ 0 0 (fun _=>undef) (Nat.le_refl _) (fun h=>by cases h) (Nat.zero_le _) (fun h=>absurd rfl h) (fun i e h=>by simp at h) (fun j h=>absurd h (by simp)) (fun i e j p h=>by simp at h))
       ·obtain⟨ad5,cap5,vs5,e6,c5,c6,_,r5,g5⟩:=x5 hrel hl4
        rw [hu4] at e6
        injection e6 with t1 t2 t3
        subst t1
        subst t3
        by_cases he4:e4=[]
        ·subst he4
         rw [hu4]
         exact .dat (.sl _ cap4 1 [] _ 0 0 (fun _=>undef) (Nat.zero_le _) (fun h=>by cases h) c6 (fun h=>absurd rfl h) (fun i e h=>by simp at h) (fun j h=>absurd h (by simp)) (fun i e j p h=>by simp at h))
        ·obtain⟨b5,off5,e7,g6⟩:=g5 he4
         injection e7 with e7
         injection e7 with e8 e9
         subst e8
         subst e9
         have hcap4:cap4≠0:=by
          have:=List.length_pos_iff.2 he4
          omega
         have hblk4:zc (zB a' j)=some g4:=by
          rw [hu4]
          cases cap4 with
          | zero=>exact absurd rfl hcap4
          | succ c=>rfl
         have hne4:g4≠gg:=fun e=>hne2 (by simp [PV.own]) (by rw [hblk4,e])
         have hh5:(w'.setRow gg new).heap[g4]? = some (.cells cur4 e5 (0,0)):=(hblkw g4 (Array.getElem?_eq_some_iff.1 hh4).1 hne4).trans hh4
         rw [hu4]
         refine .dat (jr (k:=.r m sz) (kj r5 hf) hh5 (fun jj hjj=>?_) c5 c6 (fun h=>by cases h) fun jj hjj=>hthird e4 sz m rfl g4 hblk4 jj (by rw [<-r5.1];exact hjj))
         have:=(g6 jj _ (List.getElem?_eq_getElem hjj)).2
         simp only [World.cell?,hh4,Nat.zero_add] at this
         rw [List.getD_eq_getElem?_getD,List.getElem?_eq_getElem hjj]
         simpa using this
     ·rw [kV,if_neg hj];exact .dat (.und _)
    ·obtain⟨j,rfl,rfl⟩:=hsl u p hp
     by_cases ho:((klS s keep).get j).own=none
     ·exact zr ho
     ·have hk1:=hkown j
      have hne2:=kne j ho
      have hsame:=ksame j
      have hget:∃ q,(klS s keep).get j=q:=⟨_,rfl⟩
      obtain⟨q,hq⟩:=hget
      rw [hq] at ho hk1 hsame ⊢
      cases q<;>try trivial
      rename_i e4 ow
      cases ow<;>try trivial
      rename_i m sz
      rcases hk1 with hn | ⟨g4,cap4,cur4,e5,hu4,hW4,hh4,hcs4,hel4,hnD4⟩
      ·exact .inl hn
      ·cases cap4 with
       | zero=>
         have hrel:=hkl.slots j
         rw [hq,hu4] at hrel
         have:=QH hrel
         exact .inl ⟨_,by rw [hu4,show e4.length=0 by omega],List.eq_nil_of_length_eq_zero (by omega)⟩
       | succ cap4=>
         have hblk4:zc (zB a' j)=some g4:=by rw [hu4];rfl
         have hne4:g4≠gg:=fun e=>hne2 (by rw [hblk4,e])
         refine .inr ⟨g4,_,cur4,e5,hu4,hW4,(hblkw g4 (Array.getElem?_eq_some_iff.1 hh4).1 hne4).trans hh4,hcs4,hel4,fun oo hoo hD=>?_⟩
         rw [hD3] at hD
         rcases hD with hD | ⟨hD,_⟩ | ⟨j',e6,sz6,m6,t1,t2,t3⟩
         ·have:=h.fr.d0lt _ _ hD
          have:=hWge g4 hW4
          omega
         ·exact hne4 hD
         ·have hd2:=hkl.disj _ _ _ _ g4 (hkl.slot j) (hkl.slot j') (by rw [hq];simp [PV.own]) (by rw [t1];simp [PV.own]) hblk4 t2
          have:=hsame j' (by simp [PV.own]) (by rw [t1];simp [PV.own]) (by rw [<-hq];exact hd2)
          subst this
          rw [hq] at t1
          injection t1 with t4 t5
          subst t4
          injection t5 with t6 t7
          subst t7
          omega
    ·obtain⟨j,rfl,rfl⟩:=hsl u p h1
     obtain⟨j',rfl,rfl⟩:=hsl u' p' h2
     exact hkl.disj _ _ _ _ b (hkl.slot j) (hkl.slot j') o1 o2 b1 b2
    ·have hsz:(w'.setRow gg new).heap.size=w'.heap.size:=by simp
     show b<(w'.setRow gg new).heap.size
     rw [hsz]
     have hD':D3 b o:=hD
     rw [hD3] at hD'
     have hbs:=hb.size
     rcases hD' with hD' | ⟨rfl,_⟩ | ⟨j,e4,sz,m,t1,t2,t3⟩
     ·have:=h.fr.d0lt _ _ hD'
      have:=h.fr.size
      omega
     ·omega
     ·have:=(zX (hkown j) (by rw [t1];simp [PV.own]) t2).1
      omega
    ·have f:=h.fr
     have hgg:=hWge gg hW
     refine⟨hb.os.trans f.os,hb.tape.trans f.tape,hb.output.trans f.output,by simpa using Nat.le_trans f.size hb.size,fun kk hk hn=>?_,fun b o hD=>by rw [hD3];exact .inl hD,fun b o y hD hy=>?_,fun b o hD=>?_,f.d0lt⟩
     ·rw [hblkw kk (Nat.lt_of_lt_of_le hk f.size) (by omega)]
      exact f.block kk hk hn
     ·have h1:=f.cell b o y hD hy
      have h2:=f.d0lt b o hD
      rw [World.cell?_of_block (a:=⟨b,o,none⟩) (hblkw b (qF h1) (show b≠gg by omega))]
      exact h1
     ·have hD':D3 b o:=hD
      rw [hD3] at hD'
      rcases hD' with hD' | ⟨rfl,_⟩ | ⟨j,e4,sz,m,t1,t2,t3⟩
      ·exact .inl hD'
      ·exact .inr hW
      ·exact .inr (zX (hkown j) (by rw [t1];simp [PV.own]) t2).2
   have hdat:Dat D3 (w'.setRow gg new) (.slice (some ⟨gg,0,none⟩) (es++es').length cap) (.sl (es++es') (.r n ti.size)):=
    jr (k:=.r n ti.size) (kj (r1.append r2) hflat) (setRow_heap w' gg cur new e' (0,0) hh') hrow (by simpa using hroom) c2 (fun h=>by cases h) fun j hj=>by rw [hD3];exact .inr (.inl ⟨rfl,hj⟩)
   have hput:=hRk.put (some d) (.dat hdat) fun _=>⟨.inr ⟨gg,cap,new,e',rfl,hW,setRow_heap w' gg cur new e' (0,0) hh',hnsz,fun e he=>?_,fun oo hoo hD=>?_⟩,fun v q b h1 h2 h3 h4=>?_,fun b i _ hi=>by simp [klS] at hi⟩
   ·refine⟨⟨D3,g.ρ⟩,w'.setRow gg new,.slice (some ⟨gg,0,none⟩) (es++es').length cap,?_,hput⟩
    rw [List.length_append]
    exact hA.run hxv e2 hr
   ·rcases List.mem_append.1 he with he | he
    ·exact f3 e he
    ·exact f4 e he
   ·have hD':D3 gg oo:=hD
    rw [hD3] at hD'
    rcases hD' with hD' | ⟨_,hD'⟩ | ⟨j,e4,sz,m,t1,t2,t3⟩
    ·have:=h.fr.d0lt _ _ hD'
     have:=hWge gg hW
     omega
    ·rw [List.length_append,hvl,r2.1,<-Nat.add_mul,<-List.length_append] at hD'
     omega
    ·exact kne j (by rw [t1];simp [PV.own]) t2
   ·exfalso
    obtain⟨j,rfl,rfl⟩:=hsl v q h1
    refine kne j h2 ?_
    rw [h3]
    cases cap with
    | zero=>exact absurd rfl hcap0
    | succ c=>simp [zc] at h4;rw [h4]
  ·exact grow (by omega) fun h=>by cases h
theorem jd {ops:Array Oper}:∀ {l:List Oper} {is:List PI},zI P nt ops l=some is->is.length=l.length/\∀(j:Nat) o,l[j]? = some o->∃ i,is[j]? = some i/\i.d=o.dst
 | [],is,h=>by cases h;exact⟨rfl,fun j o h=>by simp at h⟩
 | o::l,is,h=>by
   simp only [zI,Option.bind_eq_some_iff] at h
   obtain⟨k,hk,r,hr,h⟩:=h
   obtain⟨h1,h2⟩:=jd hr
   have key:∃ i0:PI,is=i0::r/\i0.d=o.dst:=by
    split at h
    ·split at h
     ·cases h;exact⟨_,rfl,rfl⟩
     ·simp only [Option.bind_eq_some_iff] at h
      obtain⟨t,_,h⟩:=h
      split at h
      ·cases h;exact⟨_,rfl,rfl⟩
      ·cases h
    ·cases h
   obtain⟨i0,rfl,hd⟩:=key
   refine⟨by simp [h1],fun j o' hj=>?_⟩
   cases j with
   | zero=>simp at hj;subst hj;exact⟨i0,rfl,hd⟩
   | succ j=>simpa using h2 j o' (by simpa using hj)
theorem qz {l:List Oper}:∀(n:Nat) (l':List Oper) (is:List PI),zI P nt l.toArray l'=some is->n<=l'.length->zI P nt l.toArray (l'.take n)=some (is.take n)/\zI P nt l.toArray (l'.drop n)=some (is.drop n):=by
 intro n
 induction n with
 | zero=>intro l' is h _;exact⟨by simp [zI],by simpa using h⟩
 | succ n ih=>
   intro l' is h hn
   cases l' with
   | nil=>simp at hn
   | cons o l'=>
     simp only [zI,Option.bind_eq_some_iff] at h
     obtain⟨k,hk,r,hr,h⟩:=h
     obtain⟨e1,e2⟩:=ih l' r hr (by simpa using hn)
     simp only [List.take_succ_cons,List.drop_succ_cons,zI,hk,Option.bind_some,e1]
     split at h
     ·rename_i hd
      rw [if_pos hd]
      split at h
      ·cases h
       exact⟨rfl,e2⟩
      ·rename_i j b hg
       simp only [Option.bind_eq_some_iff] at h
       obtain⟨t,ht,h⟩:=h
       split at h
       ·rename_i htn
        cases h
        exact⟨by simp [ht,htn],e2⟩
       ·cases h
     ·cases h
theorem zd2 {l:List Oper} {Q:Exit->Act->World->Prop} (nh nt:Nat) (C:World->Prop) (hB:(xk l.toArray nh nt && yK l.toArray nh)=true) (hnt:a.tmps.size=nt) (hC:C w.drew)
 (h:walkG qe (fun o a w K=>o.wp P a w K Q) a w.drew C (fun a w=>wpList P l.toArray Q (l.drop nh) a w) (l.take nh) []):wpAny P .any l.toArray Q l.toArray.size (Array.replicate l.toArray.size false) a w.drew:=by
 rw [Bool.and_eq_true] at hB
 refine gready (ops:=l.toArray) (a0:=a) (w0:=w.drew) (C:=C) rfl (fun o a w K=>o.wp P a w K Q) (wpOp P l.toArray Q) (wpAny P .any l.toArray Q) (fun a w=>Q .normal a w) (fun k a w=>wpList P l.toArray Q (l.drop k) a w)
  ?_ (fun i K K' a w hk hs=>wpOp_mono hk hs) (fun listed a w h1 h2=>⟨h1,h2⟩) (fun fuel listed a w h1 h2=>⟨h1,h2⟩) ?_ ?_ hB.1 hB.2 hnt hC h
 ·intro i o K a w ho hs
  unfold wpOp
  simp only [ho]
  split
  ·rename_i hw;rw [if_pos hw] at hs;exact .inl hs
  ·rename_i hw;rw [if_neg hw] at hs;exact hs
 ·intro k a w hk ht
  have hk':k<l.length:=by simpa using hk
  simp only [List.drop_eq_getElem_cons hk',wpList] at ht
  unfold wpOp
  simp only [List.getElem?_toArray,List.getElem?_eq_getElem hk']
  exact ht
 ·intro a w ht
  simpa [wpList] using ht
theorem zcI {fr:Prop} (hfr:fr->∀ k,¬ B.Sb k) {l:List Oper} {is:List PI} {nh:Nat} {Q:PX->PS->Prop} (hcl:∀ t,(s.get t).isN=false) (hc:zI P nt l.toArray l=some is) (hB:(xk l.toArray nh nt && yK l.toArray nh)=true) (hq:zf P (is.take nh) (qZ P fr (is.take nh) s (is.drop nh) (Q .n)) s) (h:RA B nt g s a w) :
 wpAny P .any l.toArray (QL B nt Q) l.toArray.size (Array.replicate l.toArray.size false) a w.drew:=by
 have hchk:=(Bool.and_eq_true _ _).mp hB
 have hsz:nh<=l.length:=by
  have:=hchk.1
  unfold xk at this
  simp only [Bool.and_eq_true,decide_eq_true_eq] at this
  simpa using this.1
 -- the two halves
 obtain⟨hc1,hc2⟩:=qz nh l is hc hsz
 have hw0:w.drew.heap.size=w.heap.size:=rfl
 have hcell:∀ w',Keep qe w.drew w'->∀ b o x,g.D b o->w.cell? ⟨b,o,none⟩=some x->w'.cell? ⟨b,o,none⟩=some x:=fun w' hk b o x _ hx=>qa (qu hk) (show b<w.drew.heap.size from qF hx) hx
 refine zd2 nh nt (fun w'=>Keep qe w.drew w') hB h.2.2 (Keep.refl _ _) ?_
 have:=Z8 (P:=P) (D:=fun b o=>g.D b o\/w.heap.size<=b) (ρ:=g.ρ) (Q:=QL B nt Q) (F:=fun a w=>wpList P l.toArray (QL B nt Q) (l.drop nh) a w) (s0:=s) (a0:=a) (w0:=w.drew) (nh:=nh) hchk.1 (K:=qZ P fr (is.take nh) s (is.drop nh) (Q .n))
  (fun w' hk t=>(h.1.slots t).mono (fun _ _ h=>.inl h) (hcell w' hk) (Nat.le_refl _) fun _ _=>rfl)
  (fun w' hk i cs hi=>by
    obtain⟨_,vs,e,hv,hz,hb⟩:=h.1.boxes i cs hi
    have hlt:g.ρ i<w.drew.heap.size:=h.1.ρlt (List.getElem?_eq_some_iff.1 hi).1
    exact⟨vs,e,(hk.block _ hlt fun h=>h).trans hv,hz,fun j p hp=>⟨(hb j p hp).1.mono (fun _ _ h=>.inl h) (hcell w' hk) (Nat.le_refl _) fun _ _=>rfl,(hb j p hp).2⟩⟩)
  (fun w' hk=>h.1.gl.mono (fun _ _ h=>.inl h) (hcell w' hk))
  (fun b o hb=>.inr hb) hcl
  (fun ps w' hk hdd hln hds hown hlt ⟨s',hE,hK⟩=>by
    have hb:=qu hk
    have hg:R B ⟨fun b o=>(g.D b o\/w.heap.size<=b)/\b<w'.heap.size,g.ρ⟩ s (zB a) w':=h.1.drew.grow hb _ (fun b o hD=>⟨.inl hD,Nat.lt_of_lt_of_le (h.1.dlt b o hD) hb.size⟩) (fun b o hD=>hD.1) (fun b o hD=>hD.2)
    refine kS ps s a hdd hown hlt (fun b o hD=>hD) ⟨hg,h.2⟩ rfl fun a' ha' hnew hsame=>?_
    have plain:ze P (is.drop nh) (Q .n) s'->wpList P l.toArray (QL B nt Q) (l.drop nh) a' w':=fun hK=>list_sound _ _ _ _ a' w' hc2 hK (ha'.eqS hE)
    unfold qZ at hK
    split at hK
    ·rename_i d x y sz by_ t' ht'
     split at hK
     ·rename_i es sz' hx
      obtain⟨rfl,hany,hK⟩:=hK
      obtain⟨es',k,ey,f1,f2,f3,f4,f5,f6,f7⟩:=y8 hK
      -- the append
      cases hl:l.drop nh with
      | nil=>rw [hl] at hc2;rw [ht'] at hc2;cases hc2
      | cons o l'=>
        rw [hl,ht'] at hc2
        simp only [zI,Option.bind_eq_some_iff] at hc2
        obtain⟨k0,hk0,r,hr,hc2⟩:=hc2
        split at hc2
        ·rename_i hdk
         have hgn:o.guard=none/\o.dst=some d/\k0=.ap (.t x) y sz' by_/\r=t':=by
          split at hc2
          ·rename_i hg0
           simp only [Option.some.injEq,List.cons.injEq,PI.mk.injEq] at hc2
           exact⟨hg0,hc2.1.1,hc2.1.2.2,hc2.2⟩
          ·simp only [Option.bind_eq_some_iff] at hc2
           obtain⟨t,_,hc2⟩:=hc2
           split at hc2
           ·simp only [Option.some.injEq,List.cons.injEq,PI.mk.injEq] at hc2
            cases hc2.1.2.1
           ·cases hc2
         obtain⟨hg0,hdst,rfl,rfl⟩:=hgn
         obtain⟨x1,x2,t,e,i,z0,hA,hx1,hx2,rfl,rfl⟩:=comp_inv hk0
         have hxt:x1=.tmp x:=by cases x1<;>first | (cases hx1;rfl) | cases hx1
         have hev:a'.eval x1=zB a' x:=by rw [hxt];rfl
         have ha2:=ha'.eqS hE
         have hrx:=ha2.1.slots x
         rw [hx] at hrx
         have hry:=Xk (a:=a') hx2 fun t _=>ha2.1.slots t
         rw [ey] at hry
         have hN:NewOk (zB a) w.heap.size w' (zB a' x) (.sl es (.n i.size)):=by
          have hgx:(zy s ps).get x=.sl es (.n i.size):=by rw [<-hE.1];exact hx
          rcases kZ (x0:=zB a) (n0:=w.heap.size) (D:=g.D) (ρ:=g.ρ) (nb:=s.b.length) (t:=x) ps s hdd with⟨p,hp1,_,e2⟩ | ⟨e1,e2⟩
          ·rw [hgx] at e2;subst e2;exact hnew x _ hp1
          ·exfalso
           obtain⟨i0,hi0,hd0⟩:=List.any_eq_true.1 hany
           have hd0:i0.d=some x:=by simpa using hd0
           obtain⟨j,hj⟩:=List.getElem?_of_mem hi0
           obtain⟨m1,m2⟩:=jd hc1
           have hjl:j<(l.take nh).length:=by rw [<-m1];exact(List.getElem?_eq_some_iff.1 hj).1
           obtain⟨i1,hi1,hd1⟩:=m2 j _ (List.getElem?_eq_getElem hjl)
           rw [hj] at hi1
           cases hi1
           have hjn:j<ps.length:=by rw [hln];simp at hjl;omega
           have hdj:=hds j _ (List.getElem?_eq_getElem hjn)
           have hjl2:j<l.length:=by simp at hjl;omega
           have e4:(l.take nh)[j]'hjl=l[j]:=by simp
           rw [e4,hd0] at hd1
           have e5:ps[j].1=some x:=by
            rw [hdj];unfold zJ;simp [hjl2,<-hd1]
           exact JS (x0:=zB a) (n0:=w.heap.size) (D:=g.D) (ρ:=g.ρ) (nb:=s.b.length) ps ps[j].2 (by rw [<-e5];exact List.getElem_mem hjn) e1
         rw [<-hev] at hrx hN
         obtain⟨g',cap',cs,e',vs,w2,hrun,q1,q2,q3,q4,q5,q6,q7,q8⟩:=zmh hA hrx hN hry hb.size f3 f4 f5 f6
         unfold wpList
         rw [if_pos (by simp [Region.wanted,hg0])]
         refine .inl ?_
         show o.upon P a' (wpList P l.toArray (QL B nt Q) l') (QL B nt Q) ((execOp a'.eval o).run P w')
         rw [hrun]
         have hd':∀ t,o.dst=some t->t<a'.tmps.size:=fun t ht=>by
          rw [ht] at hdk
          rw [ha'.2.2];simpa [vd] using hdk
         have hflat:qK (es++es'):=fun e he=>by
          rcases List.mem_append.1 he with he | he
          ·exact f1 e he
          ·exact f2 e he
         have hbel:Below w.drew.heap.size w.drew w2:=hb.trans q2
         have hfor:R B g (qI (is.take nh) s) (zB a') w.drew:=h.1.drew.forget fun t ht=>hsame t fun y hy e=>by
          obtain⟨j,hj⟩:=List.getElem?_of_mem hy
          have hjn:j<nh:=by have:=(List.getElem?_eq_some_iff.1 hj).1;omega
          have hdj:=hds j y hj
          rw [e] at hdj
          obtain⟨m1,m2⟩:=jd hc1
          have hjl:j<(l.take nh).length:=by simp;omega
          have h3:=m2 j _ (List.getElem?_eq_getElem hjl)
          obtain⟨i',hi',hid⟩:=h3
          refine ht i' (List.mem_of_getElem? hi') ?_
          rw [hid]
          unfold zJ at hdj
          have hjl2:j<l.length:=by omega
          have:(l.take nh)[j]'hjl=l[j]:=by simp
          rw [this]
          simpa [hjl2] using hdj.symm
         obtain⟨g2,hR2⟩:=hfor.fresh (n0:=d) hbel (g':=g') q1 q3 (kj q7 hflat) q8 q4 q5 q6 (fun e=>f6 (List.append_eq_nil_iff.1 e).2) (some d)
         refine list_sound l' r _ g2 _ w2 hr f7 ⟨?_,by rw [(zD _ _ _).2];exact ha'.2.1,by rw [(zD _ _ _).1];exact ha'.2.2⟩
         rw [zN hd',hdst]
         exact hR2
        ·cases hc2
     ·rename_i es i hx
      obtain⟨hfr1,hany,hK⟩:=hK
      split at hK
      ·rename_i es0 n sz' hsi
       obtain⟨rfl,hK⟩:=hK
       obtain⟨es',k,ey,f3,f4,f5,f6,hQ⟩:=y8 hK
       cases hl:l.drop nh with
       | nil=>rw [hl] at hc2;rw [ht'] at hc2;cases hc2
       | cons o l'=>
         rw [hl,ht'] at hc2
         simp only [zI,Option.bind_eq_some_iff] at hc2
         obtain⟨k0,hk0,r,hr,hc2⟩:=hc2
         split at hc2
         ·rename_i hdk
          have hgn:o.guard=none/\o.dst=some d/\k0=.ap (.t x) y sz' by_/\r=t':=by
           split at hc2
           ·rename_i hg0
            simp only [Option.some.injEq,List.cons.injEq,PI.mk.injEq] at hc2
            exact⟨hg0,hc2.1.1,hc2.1.2.2,hc2.2⟩
           ·simp only [Option.bind_eq_some_iff] at hc2
            obtain⟨t,_,hc2⟩:=hc2
            split at hc2
            ·simp only [Option.some.injEq,List.cons.injEq,PI.mk.injEq] at hc2
             cases hc2.1.2.1
            ·cases hc2
          obtain⟨hg0,hdst,rfl,rfl⟩:=hgn
          obtain⟨x1,x2,t,e,ti,z0,hA,hx1,hx2,rfl,rfl⟩:=comp_inv hk0
          have hxt:x1=.tmp x:=by cases x1<;>first | (cases hx1;rfl) | cases hx1
          have hev:a'.eval x1=zB a' x:=by rw [hxt];rfl
          have ha2:=ha'.eqS hE
          have hrx:=ha2.1.slots x
          rw [hx] at hrx
          have hry:=Xk (a:=a') hx2 fun t _=>ha2.1.slots t
          rw [ey] at hry
          have hN:NewOk (zB a) w.heap.size w' (zB a' x) (.sl es (.p i)):=by
           have hgx:(zy s ps).get x=.sl es (.p i):=by rw [<-hE.1];exact hx
           rcases kZ (x0:=zB a) (n0:=w.heap.size) (D:=g.D) (ρ:=g.ρ) (nb:=s.b.length) (t:=x) ps s hdd with⟨p,hp1,_,e2⟩ | ⟨e1,e2⟩
           ·rw [hgx] at e2;subst e2;exact hnew x _ hp1
           ·rw [hgx] at e2
            have:=hcl x
            rw [<-e2] at this;cases this
          obtain⟨ad,len,cap,p1,p2⟩:=hN
          have hdst1:∀ j,((is.take nh).all fun y=>!(y.d == some j))=true->zB a' j=zB a j:=fun j h3=>hsame j fun y hy e=>by
           obtain⟨jj,hjj⟩:=List.getElem?_of_mem hy
           have hdj:=hds jj y hjj
           rw [e] at hdj
           obtain⟨m1,m2⟩:=jd hc1
           have hjn:jj<nh:=by have:=(List.getElem?_eq_some_iff.1 hjj).1;omega
           have hjl:jj<(l.take nh).length:=by simp;omega
           obtain⟨i',hi',hid⟩:=m2 jj _ (List.getElem?_eq_getElem hjl)
           rw [List.all_eq_true] at h3
           have h4:=h3 i' (List.mem_of_getElem? hi')
           unfold zJ at hdj
           have hjl2:jj<l.length:=by omega
           have e4:(l.take nh)[jj]'hjl=l[jj]:=by simp
           rw [e4] at hid
           rw [hid] at h4
           have:l[jj].dst=some j:=by simpa [hjl2] using hdj.symm
           rw [this] at h4
           simp at h4
          have hd':∀ t,o.dst=some t->t<a'.tmps.size:=fun t ht=>by
           rw [ht] at hdk
           rw [ha'.2.2];simpa [vd] using hdk
          unfold wpList
          rw [if_pos (by simp [Region.wanted,hg0])]
          refine .inl ?_
          rcases hQ with⟨⟨f1,f2⟩,keep,f7,f8⟩ | ⟨hi1,hi2,hi3,hi4,hi5⟩
          ·have hdsts:∀ j ∈ keep,zB a' j=zB a j:=fun j hj=>hdst1 j (f7.1 j hj).1
           obtain⟨g2,w2,u,hrun,hR2⟩:=ze1 hfr1 hfr (d:=d) h.1.drew hb hA (hev.trans p2) hry hsi p1 (hrx:=p2 ▸ hrx) f1 f2 f3 f4 f5 f6 f7.2 (fun j hj=>(f7.1 j hj).2) hdsts
           show o.upon P a' (wpList P l.toArray (QL B nt Q) l') (QL B nt Q) ((execOp a'.eval o).run P w')
           rw [hrun]
           refine list_sound l' r _ g2 _ w2 hr f8 ⟨?_,by rw [(zD _ _ _).2];exact ha'.2.1,by rw [(zD _ _ _).1];exact ha'.2.2⟩
           rw [zN hd',hdst]
           exact hR2
          ·subst hi3
           have hx1':zB a' x=zB a' i:=by
            have hri:=h.1.slots i
            rw [hsi] at hri
            obtain⟨ad',cap',_,_,_,_,q1,_⟩:=hri.inv_sl
            rw [hdst1 i hi1,p2,q1]
            rw [p1] at q1
            injection q1 with q2 q3 q4
            rw [q2,q4]
           have hR1:R B ⟨fun b o=>(g.D b o\/w.heap.size<=b)/\b<w'.heap.size,g.ρ⟩ (s'.put (some x) (.sl es0 (.r n ti.size))) (zB a') w':=by
            have hsl:=ha2.1.slots i
            have hs0:=ha2.1.slot i
            rw [hi2,hsi] at hsl hs0
            have:=ha2.1.put (some x) hsl (ha2.1.ownNew hs0)
            rwa [show QO (zB a') (some x) (zB a' i)=zB a' from by
             funext t
             unfold QO
             split
             ·rename_i e;cases e;exact hx1'.symm
             ·rfl] at this
           refine zgN (K:=ze P r (Q .n)) hd' hR1 hA hx1 hx2 (zF _ _ _) (hi4.trans ey) f4 f5 (by rw [hdst];exact hi5) _ _ fun s3 g3 u w3 hk hR=>?_
           exact list_sound l' r _ g3 _ w3 hr hk ⟨hR,by rw [(zD _ _ _).2];exact ha'.2.1,by rw [(zD _ _ _).1];exact ha'.2.2⟩
         ·cases hc2
      ·exact hK.elim
     ·exact plain hK
    ·exact plain hK)
  (l.take nh) (is.take nh) [] s (EqS.refl _) hc1 (by simp;omega) (fun j hj=>by
    have hj':j<nh:=by simp at hj;omega
    simp [List.getElem?_take,hj']) (fun j x h=>by simp at h) List.Pairwise.nil (by simp) hq
 simpa [qq] using this
abbrev GW:=List Nat × World
instance instGW:Pl.Kpo GW where
 kp x y:=Keep qe x.2 y.2/\(∀ b ∈ x.1,b ∈ y.1)/\∀ b ∈ y.1,b ∈ x.1\/x.2.heap.size<=b
 refl w:=⟨Keep.refl _ _,fun _ h=>h,fun _ h=>.inl h⟩
 trans a b c h k:=⟨h.1.trans k.1,fun x hx=>k.2.1 x (h.2.1 x hx),fun x hx=>by
  rcases k.2.2 x hx with h' | h'
  ·exact h.2.2 x h'
  ·exact .inr (Nat.le_trans h.1.size h')⟩
def J1 (P:Program) (Q:Exit->Act->World->Prop):Oper->Act->GW->(Act->GW->Prop)->Prop:=fun o a S K=>o.wp P a S.2 (fun a' w'=>∃ F',K a' (F',w')) Q
def CG (w0:World):GW->Prop:=fun S=>Keep qe w0 S.2/\∀ b ∈ S.1,w0.heap.size<=b/\b<S.2.heap.size
def VG (D:Nat->Nat->Prop) (ρ:Nat->Nat) (nb:Nat) (p:PV):Pl.VP GW:=fun u S=>Rel (fun b o=>D b o/\b ∉ S.1) ρ nb S.2 u p
def qw (D:Nat->Nat->Prop) (ρ:Nat->Nat) (nb:Nat) (ps:List (Option Nat × PV)):List (Option Tmp × Pl.VP GW):=ps.map fun y=>(y.1,VG D ρ nb y.2)
theorem VG.stab {p:PV} {u:Value} {S S':GW} (h:VG D ρ nb p u S) (k:Pl.Kpo.kp S S'):VG D ρ nb p u S':=
 (Rel.restrict h).mono (fun b o hD=>⟨hD.1.1,fun hm=>(k.2.2 b hm).elim hD.1.2 fun h'=>Nat.not_le.2 hD.2 h'⟩) (fun b o x _ hx=>qa (qu k.1) (qF hx) hx) (Nat.le_refl _) fun _ _=>rfl
theorem za2 (ps:List (Option Nat × PV)) (d:Option Nat) (p:PV):qw D ρ nb (ps++[(d,p)])=qw D ρ nb ps++[(d,VG D ρ nb p)]:=by simp [qw]
theorem jk {t:Nat}:∀(ps:List (Option Nat × PV)) (s:PS),ke ps->(∃ p,(some t,p) ∈ ps/\Pl.lk (qw D ρ nb ps) t=some (VG D ρ nb p)/\(zy s ps).get t=p)\/(Pl.lk (qw D ρ nb ps) t=none/\(zy s ps).get t=s.get t)
 | [],s,_=>.inr ⟨rfl,rfl⟩
 | (d,p)::ps,s,h=>by
   have h':=List.pairwise_cons.1 h
   by_cases e:d=some t
   ·subst e
    refine .inl ⟨p,by simp,by simp [qw,Pl.lk],?_⟩
    rw [show zy s ((some t,p)::ps)=zy (s.put (some t) p) ps from rfl,qt]
    ·exact zF s t p
    ·intro x hx e
     rcases h'.1 x hx with h1 | h1
     ·cases h1
     ·exact h1 e.symm
   ·rcases jk (t:=t) ps (s.put d p) h'.2 with⟨q,h1,h2,h3⟩ | ⟨h1,h2⟩
    ·exact .inl ⟨q,by simp [h1],by simpa [qw,Pl.lk,e] using h2,h3⟩
    ·refine .inr ⟨by simpa [qw,Pl.lk,e] using h1,?_⟩
     rw [show zy s ((d,p)::ps)=zy (s.put d p) ps from rfl,h2]
     cases d with
     | none=>rfl
     | some d=>exact zV s p fun e'=>e (by rw [e'])
theorem ZP {t:Nat}:∀(ps:List (Option Nat × PV)) (p:PV),(some t,p) ∈ ps->Pl.lk (qw D ρ nb ps) t≠none
 | y::ps,p,h=>by
   by_cases e:y.1=some t
   ·simp [qw,Pl.lk,e]
   ·rcases List.mem_cons.1 h with h | h
    ·rw [<-h] at e;exact absurd rfl e
    ·have:=ZP ps p h
     simpa [qw,Pl.lk,e] using this
theorem ki {F:Act->GW->Prop} {S:GW} {l2:List (Option Tmp × Pl.VP GW)}:∀(l1:List (Option Tmp × Pl.VP GW)) (a:Act),Pl.finG (fun a S=>Pl.finG F S l2 a) S l1 a->Pl.finG F S (l1++l2) a
 | [],a,h=>h
 | (none,_)::r,a,h=>ki r a h
 | (some _,_)::r,a,h=>fun u hu=>ki r _ (h u hu)
theorem yL {S:GW} {F:Act->GW->Prop} {D':Nat->Nat->Prop}:∀(ps:List (Option Nat × PV)) (s:PS) (a:Act),ke ps->(∀ x ∈ ps,x.2.own=none)->(∀ x ∈ ps,∀ d,x.1=some d->d<nt)->(∀ b o,((D b o/\b ∉ S.1)/\b<S.2.heap.size)->D' b o)->RA B nt ⟨D',ρ⟩ s a S.2->s.b.length=nb ->
 (∀ a',RA B nt ⟨D',ρ⟩ (zy s ps) a' S.2->(∀ t,(∀ x ∈ ps,x.1≠some t)->zB a' t=zB a t)->F a' S)->Pl.finG F S (qw D ρ nb ps) a
 | [],s,a,_,_,_,_,h,_,hF=>hF a h fun _ _=>rfl
 | (none,p)::ps,s,a,h0,h1,h2,h3,h,hb,hF=>yL ps s a (List.pairwise_cons.1 h0).2 (fun x hx=>h1 x (by simp [hx])) (fun x hx=>h2 x (by simp [hx])) h3 h hb fun a' k1 k3=>hF a' k1 (fun t ht=>k3 t fun x hx=>ht x (by simp [hx]))
 | (some d,p)::ps,s,a,h0,h1,h2,h3,h,hb,hF=>by
   intro u hu
   have hd:=h2 (some d,p) (by simp) d rfl
   have h0':=List.pairwise_cons.1 h0
   have hda:d<a.tmps.size:=by rw [h.2.2];exact hd
   have hsl:zB (a.put (some d) u)=QO (zB a) (some d) u:=zN (by intro t ht;cases ht;exact hda)
   have hnd:∀ x ∈ ps,x.1≠some d:=fun x hx e=>by
    rcases h0'.1 x hx with h | h
    ·cases h
    ·exact h e.symm
   refine yL ps (s.put (some d) p) _ h0'.2 (fun x hx=>h1 x (by simp [hx])) (fun x hx=>h2 x (by simp [hx])) h3 ⟨?_,by rw [(zD _ _ _).2];exact h.2.1,by rw [(zD _ _ _).1];exact h.2.2⟩ (by rw [zaq];exact hb) fun a' k1 k3=>hF a' k1 fun t ht=>?_
   ·rw [hsl]
    have hu':Rel (fun b o=>D b o/\b ∉ S.1) ρ nb S.2 u p:=hu
    refine h.1.put (some d) ?_ (.none (h1 (some d,p) (by simp)))
    rw [hb]
    exact hu'.restrict.mono h3 (fun _ _ _ _ h=>h) (Nat.le_refl _) fun _ _=>rfl
   ·rw [k3 t fun x hx=>ht x (by simp [hx]),hsl]
    exact QP _ _ fun e=>ht (some d,p) (by simp) (by rw [e])
theorem yp {ops:Array Oper} {Q:Exit->Act->World->Prop} {E:List (Option Tmp × Pl.VP GW)->Prop} {s0:PS} {a0:Act} {w0:World} {nh nh':Nat} (hnh:nh<=nh') (hchk:Pl.ChkR ops nh' nt) {l2:List Oper} {K:PS->Prop}
 (h0:∀ S,CG w0 S->∀ t,Rel (fun b o=>D b o/\b ∉ S.1) ρ s0.b.length S.2 (a0.tmps.getD t undef) (s0.get t)) (hbox:∀ S,CG w0 S->∀(i:Nat) cs,s0.b[i]? = some cs->zaA ⟨fun b o=>D b o/\b ∉ S.1,ρ⟩ s0.b.length S.2 i cs) (hgl:∀ S,CG w0 S->GL (fun b o=>D b o/\b ∉ S.1) S.2) (hnew:∀ b o,w0.heap.size<=b->D b o)
 (hF:∀ ps,ke ps->ps.length=nh->(∀(j:Nat) x,ps[j]? = some x->x.1=zJ ops j)->(∀ x ∈ ps,x.2.own=none)->(∀ x ∈ ps,∀ d,x.1=some d->d<nt)->(∃ s',EqS s' (zy s0 ps)/\K s')->Pl.walkE (J1 P Q) a0 ([],w0) (CG w0) E l2 (qw D ρ s0.b.length ps)) :
 ∀(l:List Oper) (is:List PI) (ps:List (Option Nat × PV)) (s':PS),EqS s' (zy s0 ps)->zI P nt ops l=some is->ps.length+l.length=nh->(∀ j,j<l.length->ops[ps.length+j]? = l[j]?)->(∀(j:Nat) x,ps[j]? = some x->x.1=zJ ops j)->ke ps->(∀ x ∈ ps,x.2.own=none) ->
  zf P is K s'->Pl.walkE (J1 P Q) a0 ([],w0) (CG w0) E (l++l2) (qw D ρ s0.b.length ps)
 | [],is,ps,s',hE,hc,hl,ho,hd,hdd,hown,hq=>by
   cases hc
   refine hF ps hdd (by simpa using hl) hd hown (fun x hx d hxd=>?_) ⟨s',hE,hq⟩
   obtain⟨j,hj⟩:=List.getElem?_of_mem hx
   have hjn:j<nh:=by have:=(List.getElem?_eq_some_iff.1 hj).1;simp at hl;omega
   obtain⟨o,ho,_,_,h3⟩:=hchk j (show j<nh' by omega)
   have:=hd j x hj
   rw [hxd] at this
   unfold zJ at this
   rw [ho] at this
   exact(h3 d this.symm).1
 | o::l,is,ps,s',hE,hc,hl,ho,hd,hdd,hown,hq=>by
   simp only [zI,Option.bind_eq_some_iff] at hc
   obtain⟨k,hk,r,hr,hc⟩:=hc
   split at hc
   ·rename_i hdk
    simp only [List.length_cons] at hl
    have hi:ps.length<nh:=by omega
    obtain⟨o',ho',_,hgd,hds⟩:=hchk ps.length (show ps.length<nh' by omega)
    have hoo:o'=o:=by
     have:=ho 0 (by simp)
     simp only [Nat.add_zero,List.getElem?_cons_zero] at this
     rw [this] at ho'
     exact(Option.some.inj ho').symm
    subst hoo
    -- going on
    have next:∀(s':PS) (p:PV),EqS s' (zy s0 ps)->p.own=none->zf P r K (s'.put o'.dst p)->Pl.walkE (J1 P Q) a0 ([],w0) (CG w0) E (l++l2) (qw D ρ s0.b.length ps++[(o'.dst,VG D ρ s0.b.length p)]):=fun s' p hE hp hq'=>by
     rw [<-za2]
     refine yp hnh hchk h0 hbox hgl hnew hF l r (ps++[(o'.dst,p)]) (s'.put o'.dst p) (by rw [YK];exact hE.put _ _) hr (by simp;omega) (fun j hj=>?_) (fun j x hj=>?_) ?_ (fun x hx=>?_) hq'
     ·have:=ho (j+1) (by simpa using hj)
      simp only [List.getElem?_cons_succ] at this
      rw [<-this]
      congr 1
      simp;omega
     ·rcases Nat.lt_or_ge j ps.length with h' | h'
      ·rw [List.getElem?_append_left h'] at hj;exact hd j x hj
      ·rw [List.getElem?_append_right h'] at hj
       have e:j - ps.length=0:=by have:=(List.getElem?_eq_some_iff.1 hj).1;simp at this;omega
       rw [e] at hj
       simp at hj
       subst hj
       have:j=ps.length:=by omega
       subst this
       unfold zJ;rw [ho'];rfl
     ·refine List.pairwise_append.2 ⟨hdd,by simp,fun x hx y hy=>?_⟩
      simp at hy
      subst hy
      obtain⟨j,hj⟩:=List.getElem?_of_mem hx
      cases hxd:x.1 with
      | none=>exact .inl rfl
      | some d=>
        refine .inr fun e=>?_
        have hjl:=(List.getElem?_eq_some_iff.1 hj).1
        have:=(hds d e.symm).2 j (by omega) ((hd j x hj).symm.trans hxd)
        omega
     ·rcases List.mem_append.1 hx with hx | hx
      ·exact hown x hx
      ·simp at hx;subst hx;exact hp
    -- what is read
    have rd:∀ s',EqS s' (zy s0 ps)->∀ a S,CG w0 S->Pl.Rds (qw D ρ s0.b.length ps) a0 (zA o') a S->Rd (fun b o=>D b o/\b ∉ S.1) ρ s' (zB a) (zA o') S.2:=fun s' hE a S hw hrds=>by
     refine⟨fun t ht=>?_,fun i cs hcs=>?_,hgl _ hw⟩
     ·rw [hE.2,qp,hE.1]
      revert ht
      generalize zA o'=ts at hrds ⊢
      induction ts with
      | nil=>intro ht;cases ht
      | cons t' ts ih=>
        intro ht
        obtain⟨h1,h2⟩:=hrds
        rcases List.mem_cons.1 ht with rfl | ht
        ·rcases jk (D:=D) (ρ:=ρ) (nb:=s0.b.length) (t:=t) ps s0 hdd with⟨p,_,e1,e2⟩ | ⟨e1,e2⟩
         ·rw [e1] at h1
          obtain⟨u,hu,hv⟩:=h1
          rw [e2]
          have:zB a t=u:=hu.2.1
          rw [this];exact hv
         ·rw [e1] at h1
          rw [e2]
          have:zB a t=a0.tmps.getD t undef:=h1.2.1
          rw [this];exact h0 S hw t
        ·exact ih h2 ht
     ·rw [hE.2,qp] at hcs ⊢
      exact hbox S hw i cs hcs
    have run:∀ s',EqS s' (zy s0 ps)->(k.q P s' fun p=>p.own=none/\zf P r K (s'.put o'.dst p))->∃ p:PV,p.own=none/\Pl.headOk (J1 P Q) a0 ([],w0) (CG w0) (qw D ρ s0.b.length ps) o' (VG D ρ s0.b.length p)/\zf P r K (s'.put o'.dst p):=fun s' hE hk2=>by
     obtain⟨p,h1,h2⟩:=zat k _ hk2
     obtain⟨hp,h1⟩:=h1
     refine⟨p,hp,?_,h1⟩
     intro a S hc hk3 hr2 K2 hK2
     obtain⟨p',rfl,_,hq3⟩:=y9 hk (rd s' hE a S hc hr2) h2
     refine hq3 (fun a' w'=>∃ F',K2 a' (F',w')) Q fun u w' hb hrel _=>⟨S.1,?_⟩
     have hk4:Keep qe S.2 w':=Keep.of_below' hb (Nat.le_refl _)
     refine hK2 u (S.1,w') ⟨hk4,fun _ h=>h,fun _ h=>.inl h⟩ ⟨hc.1.trans hk4,fun b hb'=>⟨(hc.2 b hb').1,Nat.lt_of_lt_of_le (hc.2 b hb').2 hk4.size⟩⟩ ?_
     rw [hE.2,qp] at hrel
     refine Rel.mono hrel (fun b o h=>?_) (fun _ _ _ _ h=>h) (Nat.le_refl _) fun _ _=>rfl
     rcases h with h | h
     ·exact h
     ·exact⟨hnew b o (Nat.le_trans hc.1.size h),fun hm=>by have:=(hc.2 b hm).2;omega⟩
    have yes:∀ s',EqS s' (zy s0 ps)->(k.q P s' fun p=>p.own=none/\zf P r K (s'.put o'.dst p))->∀ hst:∀ V:Pl.VP GW,Pl.headOk (J1 P Q) a0 ([],w0) (CG w0) (qw D ρ s0.b.length ps) o' V->Pl.stepOk (J1 P Q) a0 ([],w0) (CG w0) (qw D ρ s0.b.length ps) o' V,
     Pl.walkE (J1 P Q) a0 ([],w0) (CG w0) E (o'::(l++l2)) (qw D ρ s0.b.length ps):=fun s' hE hk2 hst=>by
     obtain⟨p,h1,h2,h3⟩:=run s' hE hk2
     exact⟨VG D ρ s0.b.length p,fun u w w' h hk=>VG.stab h hk,hst _ h2,next s' p hE h1 h3⟩
    have no:∀ s',EqS s' (zy s0 ps)->zf P r K (s'.put o'.dst (.v undef))->∀ hst:Pl.stepOk (J1 P Q) a0 ([],w0) (CG w0) (qw D ρ s0.b.length ps) o' (fun u _=>u=undef),
     Pl.walkE (J1 P Q) a0 ([],w0) (CG w0) E (o'::(l++l2)) (qw D ρ s0.b.length ps):=fun s' hE hk2 hst=>by
     have hV:VG D ρ s0.b.length (.v undef)=fun(u:Value) (_:GW)=>u=undef:=by
      funext u w
      exact propext ⟨fun h=>Rel.v_inv h,fun h=>by subst h;exact .dat (.v _)⟩
     have:=next s' (.v undef) hE rfl hk2
     rw [hV] at this
     exact⟨_,fun u w w' h hk=>h,hst,this⟩
    split at hc
    ·rename_i hg
     cases hc
     exact yes s' hE hq fun V hV=>by unfold Pl.stepOk;rw [hg];exact hV
    ·rename_i j b hg
     simp only [Option.bind_eq_some_iff] at hc
     obtain⟨t,ht,hc⟩:=hc
     split at hc
     ·rename_i htn
      cases hc
      obtain⟨hji,_,_⟩:=hgd j b hg
      have hget:∃ p,(qw D ρ s0.b.length ps)[j]? = some (some t,VG D ρ s0.b.length p)/\(zy s0 ps).get t=p:=by
       have hx:=List.getElem?_eq_getElem hji
       have hdx:=hd j _ hx
       rw [ht] at hdx
       have hm:ps[j]=(some t,ps[j].2):=Prod.ext hdx rfl
       refine⟨ps[j].2,by unfold qw;rw [List.getElem?_map,hx,hm];rfl,?_⟩
       rcases jk (D:=D) (ρ:=ρ) (nb:=s0.b.length) (t:=t) ps s0 hdd with⟨p,hp1,_,e2⟩ | ⟨e1,_⟩
       ·obtain⟨j',hj'⟩:=List.getElem?_of_mem hp1
        have hj'l:=(List.getElem?_eq_some_iff.1 hj').1
        obtain⟨oj,hoj,_,_,hdj⟩:=hchk j (show j<nh' by omega)
        have:j'=j:=(hdj t (by have:=ht;unfold zJ at this;rw [hoj] at this;exact this)).2 j' (by omega) (hd j' _ hj').symm
        subst this
        rw [hx] at hj'
        simp only [Option.some.injEq] at hj'
        rw [e2,hj']
       ·exfalso
        have hmem:(some t,ps[j].2) ∈ ps:=by rw [<-hm];exact List.getElem_mem hji
        exact ZP ps _ hmem e1
      obtain⟨p,hp1,hp2⟩:=hget
      simp only [zf,PI.guard] at hq
      split at hq
      ·rename_i c e
       rw [hE.1,hp2] at e
       subst e
       by_cases hcb:c=b
       ·subst hcb
        refine yes _ (hE.fix hp2) (hq.1 rfl) fun V hV=>?_
        unfold Pl.stepOk
        rw [hg]
        refine .inl ⟨?_,hV⟩
        unfold Pl.isV;rw [hp1];exact fun u w h=>Rel.v_inv h
       ·have hneg:=ZT hcb
        refine no _ (hE.fix (by rw [hp2,hneg])) (hq.2 hneg) ?_
        unfold Pl.stepOk
        rw [hg]
        refine .inr ⟨.inl ?_,rfl⟩
        unfold Pl.isV;rw [hp1]
        intro u w h
        rw [<-hneg];exact Rel.v_inv h
      ·rename_i vs e
       rw [hE.1,hp2] at e
       subst e
       obtain⟨rfl,hq⟩:=hq
       refine no s' hE hq ?_
       unfold Pl.stepOk
       rw [hg]
       refine .inr ⟨.inr ?_,rfl⟩
       unfold Pl.isV;rw [hp1]
       exact fun u w h=>Rel.v_inv h
      ·exact hq.elim
     ·cases hc
   ·cases hc
def VA (vs:Array Value) (e:TypeId):Pl.VP GW:=fun u S=>∃ b,b ∈ S.1/\u=.pointer (some ⟨b,0,none⟩)/\S.2.heap[b]? = some (.cells vs e (0,0))
theorem VA.stab {vs:Array Value} {e:TypeId} {u:Value} {S S':GW} (h:VA vs e u S) (k:Pl.Kpo.kp S S'):VA vs e u S':=by
 obtain⟨b,h1,h2,h3⟩:=h
 exact⟨b,k.2.1 b h1,h2,k.1.obj h3 fun h=>h⟩
theorem zaY {fr:Prop} {l:List Oper} {is t':List PI} {nh d:Nat} {zs:List PV} {Q:PX->PS->Prop} (hc:zI P nt l.toArray l=some is) (hdr:is.drop nh=⟨some d,none,.al zs⟩::t') (hB:(xk l.toArray (nh+1) nt && yK l.toArray (nh+1))=true) (hq:zf P (is.take nh) (qZ P fr (is.take nh) s (is.drop nh) (Q .n)) s) (h:RA B nt g s a w) :
 wpAny P .any l.toArray (QL B nt Q) l.toArray.size (Array.replicate l.toArray.size false) a w.drew:=by
 have hchk:=(Bool.and_eq_true _ _).mp hB
 have hsz:nh+1<=l.length:=by
  have:=hchk.1
  unfold xk at this
  simp only [Bool.and_eq_true,decide_eq_true_eq] at this
  simpa using this.1
 obtain⟨hc1,hc2⟩:=qz nh l is hc (by omega)
 rw [List.drop_eq_getElem_cons (show nh<l.length by omega),hdr] at hc2
 obtain⟨o,ho⟩:∃ o,l[nh]=o:=⟨_,rfl⟩
 rw [ho] at hc2
 simp only [zI,Option.bind_eq_some_iff] at hc2
 obtain⟨k,hk,r,hr,hc2⟩:=hc2
 have hgn:vd nt o.dst=true/\o.guard=none/\o.dst=some d/\k=.al zs/\r=t':=by
  split at hc2
  ·rename_i hdk
   split at hc2
   ·rename_i hg0
    simp only [Option.some.injEq,List.cons.injEq,PI.mk.injEq] at hc2
    exact⟨hdk,hg0,hc2.1.1,hc2.1.2.2,hc2.2⟩
   ·simp only [Option.bind_eq_some_iff] at hc2
    obtain⟨t,_,hc2⟩:=hc2
    split at hc2
    ·simp only [Option.some.injEq,List.cons.injEq,PI.mk.injEq] at hc2
     cases hc2.1.2.1
    ·cases hc2
  ·cases hc2
 obtain⟨hdk,hg0,hdst,rfl,rfl⟩:=hgn
 obtain⟨e,hoe,hz⟩:=comp_inv hk
 obtain⟨i,z,g1,g2,rfl,g4⟩:=qJ hz
 have hrun:∀(a:Act) (w:World),(execOp a.eval o).run P w=.ok (.value (.pointer (some ⟨w.heap.size,0,none⟩))) (w.alloc (.cells z.cells e)):=fun a w=>by
  have hzv:(zeroValue e).run P w=.ok z w:=by simp [zeroValue,typeInfo,g1,g2]
  simp [execOp,hoe,Instr.alloc,hzv,newVar,newRow]
 have hw0:w.drew.heap.size=w.heap.size:=rfl
 have hlow:∀ S:GW,CG w.drew S->∀ b,b<w.heap.size->b ∉ S.1:=fun S hS b hb hm=>by have:=(hS.2 b hm).1;omega
 have hcell:∀ w',Keep qe w.drew w'->∀ b o x,g.D b o->w.cell? ⟨b,o,none⟩=some x->w'.cell? ⟨b,o,none⟩=some x:=fun w' hk b o x _ hx=>qa (qu hk) (show b<w.drew.heap.size from qF hx) hx
 have main:Pl.walkG (J1 P (QL B nt Q)) a (([],w.drew):GW) (CG w.drew) (fun a S=>wpList P l.toArray (QL B nt Q) (l.drop (nh+1)) a S.2) (l.take nh++[o]) []:=by
  refine Pl.walkG_of _ _ ?_
  have:=yp (P:=P) (D:=fun b o=>g.D b o\/w.heap.size<=b) (ρ:=g.ρ) (Q:=QL B nt Q) (E:=fun env=>∀ S,CG w.drew S->Pl.Kpo.kp (([],w.drew):GW) S->Pl.finG (fun a S=>wpList P l.toArray (QL B nt Q) (l.drop (nh+1)) a S.2) S env a) (s0:=s) (a0:=a) (w0:=w.drew) (nh:=nh) (nh':=nh+1) (Nat.le_succ _) (Pl.chkR_of hchk.1) (l2:=[o]) (K:=qZ P fr (is.take nh) s (is.drop nh) (Q .n))
   (fun S hS t=>(h.1.slots t).mono (fun b o hD=>⟨.inl hD,hlow S hS b (h.1.dlt b o hD)⟩) (hcell S.2 hS.1) (Nat.le_refl _) fun _ _=>rfl)
   (fun S hS i cs hi=>by
     obtain⟨_,vs,e,hv,hz,hb⟩:=h.1.boxes i cs hi
     have hlt:g.ρ i<w.drew.heap.size:=h.1.ρlt (List.getElem?_eq_some_iff.1 hi).1
     exact⟨vs,e,(hS.1.block _ hlt fun h=>h).trans hv,hz,fun j p hp=>⟨(hb j p hp).1.mono (fun b o hD=>⟨.inl hD,hlow S hS b (h.1.dlt b o hD)⟩) (hcell S.2 hS.1) (Nat.le_refl _) fun _ _=>rfl,(hb j p hp).2⟩⟩)
   (fun S hS=>h.1.gl.mono (fun b o hD=>⟨.inl hD,hlow S hS b (h.1.dlt b o hD)⟩) (hcell S.2 hS.1)) (fun b o hb=>.inr hb)
   (fun ps hdd hln hds hown hlt ⟨s',hE,hK⟩=>by
     refine⟨VA z.cells e,fun u S S' h hk=>VA.stab h hk,?_,fun S hS _=>?_⟩
     ·unfold Pl.stepOk
      rw [hg0]
      intro a' S hS _ _ K hK
      show o.upon P a' (fun a' w'=>∃ F',K a' (F',w')) (QL B nt Q) ((execOp a'.eval o).run P S.2)
      rw [hrun]
      have hk1:Keep qe S.2 (S.2.alloc (.cells z.cells e)):=(Keep.refl _ _).alloc _
      refine⟨S.2.heap.size::S.1,hK _ (S.2.heap.size::S.1,_) ⟨hk1,fun b hb=>List.mem_cons_of_mem _ hb,fun b hb=>?_⟩ ⟨hS.1.trans hk1,fun b hb=>?_⟩ ⟨_,List.mem_cons_self,rfl,World.alloc_heap_new _ _⟩⟩
      ·rcases List.mem_cons.1 hb with rfl | hb
       ·exact .inr (Nat.le_refl _)
       ·exact .inl hb
      ·rcases List.mem_cons.1 hb with rfl | hb
       ·exact⟨hS.1.size,by simp⟩
       ·exact⟨(hS.2 b hb).1,Nat.lt_of_lt_of_le (hS.2 b hb).2 hk1.size⟩
     ·have hb:=qu hS.1
      refine ki _ _ ?_
      have hg:R B ⟨fun b o=>((g.D b o\/w.heap.size<=b)/\b ∉ S.1)/\b<S.2.heap.size,g.ρ⟩ s (zB a) S.2:=h.1.drew.grow hb _ (fun b o hD=>⟨⟨.inl hD,hlow S hS b (h.1.dlt b o hD)⟩,Nat.lt_of_lt_of_le (h.1.dlt b o hD) hb.size⟩) (fun b o hD=>hD.1.1) (fun b o hD=>hD.2)
      refine yL ps s a hdd hown hlt (fun b o hD=>hD) ⟨hg,h.2⟩ rfl fun a' ha' hsame=>?_
      have ha2:=ha'.eqS hE
      rw [hdst]
      intro u hu
      obtain⟨b,m1,rfl,m3⟩:=hu
      have hbw:=(hS.2 b m1).1
      rw [hdr] at hK
      have hK':ze P r (Q .n) (PS.put ⟨s'.t,s'.b++[z.cells.toList.map Q6]⟩ (some d) (.bx s'.b.length 0)):=hK
      have hnb:s'.b.length=s.b.length:=by rw [hE.2,qp]
      have hcd:=yT (D:=fun b o=>((g.D b o\/w.heap.size<=b)/\b ∉ S.1)/\b<S.2.heap.size) (w:=S.2) g4
      have hso:∀ u q,zQ ⟨fun b o=>((g.D b o\/w.heap.size<=b)/\b ∉ S.1)/\b<S.2.heap.size,g.ρ⟩ s' (zB a') S.2 u q->q.own≠none->zQ g s (zB a) w u q:=by
       rintro u q (⟨t,rfl,rfl⟩ | ⟨i,j,cs,q1,q2,q3⟩) ho
       ·rw [hE.1] at ho ⊢
        rcases jk (D:=g.D) (ρ:=g.ρ) (nb:=s.b.length) (t:=t) ps s hdd with⟨p,hp1,_,e2⟩ | ⟨e1,e2⟩
        ·rw [e2] at ho
         exact absurd (hown _ hp1) ho
        ·rw [e2]
         refine .inl ⟨t,hsame t fun x hx e=>?_,rfl⟩
         exact ZP (D:=g.D) (ρ:=g.ρ) (nb:=s.b.length) ps x.2 (by rw [<-e];exact hx) e1
       ·rw [hE.2,qp] at q1
        refine .inr ⟨i,j,cs,q1,q2,?_⟩
        rw [<-q3]
        exact(hb.cell (p:=⟨g.ρ i,j,none⟩) (h.1.ρlt (List.getElem?_eq_some_iff.1 q1).1)).symm
      have hR2:=ha2.1.boxAt (some d) z.cells e (z.cells.toList.map Q6) hcd.1 m3 (.inl (Nat.le_trans h.1.fr.size hbw)) (fun i hi e=>by
       rw [hnb] at hi
       have:=h.1.ρlt hi
       have e':g.ρ i=b:=e
       omega) (fun o hD=>hD.1.2 m1) (fun u q hs ho e=>by
       have hs':=hso u q hs ho
       have:=(zX (h.1.owns u q hs') ho e).1
       omega) (fun i p hp=>⟨.dat (hcd.2 i p hp).1,(hcd.2 i p hp).2⟩) (fun p hp=>by
       obtain⟨v,_,rfl⟩:=List.mem_map.1 hp
       unfold Q6;split<;>rfl)
      have hd':∀ t,some d=some t->t<a'.tmps.size:=fun t ht=>by
       cases ht
       rw [hdst] at hdk
       rw [ha'.2.2];simpa [vd] using hdk
      rw [<-zN hd'] at hR2
      exact list_sound _ _ _ _ _ _ hr hK' ⟨hR2,by rw [(zD _ _ _).2];exact ha'.2.1,by rw [(zD _ _ _).1];exact ha'.2.2⟩)
   (l.take nh) (is.take nh) [] s (EqS.refl _) hc1 (by simp;omega) (fun j hj=>by
     have hj':j<nh:=by simp at hj;omega
     simp [List.getElem?_take,hj']) (fun j x h=>by simp at h) List.Pairwise.nil (by simp) hq
  simpa [qw] using this
 rw [<-ho,<-List.take_succ_eq_append_getElem (show nh<l.length by omega)] at main
 refine Pl.gready (Ω:=GW) (ops:=l.toArray) (a0:=a) (w0:=([],w.drew)) (C:=CG w.drew) rfl (J1 P (QL B nt Q)) (fun i K a S=>wpOp P l.toArray (QL B nt Q) i (fun a' w'=>∃ F',K a' (F',w')) a S.2) (fun n listed a S=>wpAny P .any l.toArray (QL B nt Q) n listed a S.2) (fun a S=>QL B nt Q .normal a S.2) (fun k a S=>wpList P l.toArray (QL B nt Q) (l.drop k) a S.2)
  ?_ (fun i K K' a w hk hs=>wpOp_mono (fun a w ⟨F,h⟩=>⟨F,hk _ _ h⟩) hs) (fun listed a w h1 h2=>⟨h1,h2⟩) (fun fuel listed a w h1 h2=>⟨h1,fun i hi=>wpOp_mono (fun a w ⟨F,h⟩=>h) (h2 i hi)⟩) ?_ ?_ hchk.1 hchk.2 h.2.2 ⟨Keep.refl _ _,fun b hb=>by cases hb⟩ main
 ·intro i o K a S ho hs
  unfold wpOp
  simp only [ho]
  split
  ·rename_i hw;rw [if_pos hw] at hs;exact .inl hs
  ·rename_i hw;rw [if_neg hw] at hs;exact⟨S.1,hs⟩
 ·intro k a S hk ht
  have hk':k<l.length:=by simpa using hk
  simp only [List.drop_eq_getElem_cons hk',wpList] at ht
  unfold wpOp
  simp only [List.getElem?_toArray,List.getElem?_eq_getElem hk']
  split
  ·rename_i hw
   rw [if_pos hw] at ht
   exact ht.imp (Oper.wp_mono fun a w h=>⟨[],h⟩) id
  ·rename_i hw
   rw [if_neg hw] at ht
   exact⟨[],ht⟩
 ·intro a w ht
  simpa [wpList] using ht
theorem zeR {ops:Array Oper} {nh nt:Nat} (h:zeQ ops nh nt=true):nh+2<=ops.size/\Pl.ChkR ops (nh+1) nt/\(∀ i,i<nh->∃ j,j<=nh+1/\i<j/\j≠nh/\edge ops j i=true)/\(nh+2<ops.size->edge ops (nh+2) nh=true):=by
 unfold zeQ at h
 simp only [Bool.and_eq_true,List.all_eq_true,List.mem_range,decide_eq_true_eq,Bool.or_eq_true] at h
 obtain⟨⟨⟨h1,h2⟩,h3⟩,h4⟩:=h
 refine⟨h1,fun i hi=>?_,fun i hi=>?_,fun hlt=>h4.resolve_left (by omega)⟩
 ·have h:=h2 i hi
  cases ho:ops[i]? with
  | none=>simp [ho] at h
  | some o=>
    simp only [ho,Bool.and_eq_true,List.all_eq_true] at h
    obtain⟨⟨q1,q2⟩,q3⟩:=h
    refine⟨o,rfl,q1,?_,?_⟩
    ·intro j b hg
     simp only [hg,Bool.and_eq_true,decide_eq_true_eq] at q2
     exact⟨q2.1.1,q2.1.2,q2.2⟩
    ·intro d hd
     simp only [hd,Bool.and_eq_true,decide_eq_true_eq,List.all_eq_true,List.mem_range,Bool.or_eq_true,Bool.not_eq_true',beq_eq_false_iff_ne] at q3
     exact⟨q3.1,fun j hj e=>(q3.2 j hj).resolve_right fun hne=>hne e⟩
 ·have h:=h3 i hi
  simp only [List.any_eq_true,List.mem_range,Bool.and_eq_true,decide_eq_true_eq] at h
  obtain⟨j,hj,⟨h5,h6⟩,h7⟩:=h
  exact⟨j,by omega,h5,h6,h7⟩
theorem xS (h2:List PI) (K:PS->Prop):∀(h1:List PI) (s:PS),zf P (h1++h2) K s=zf P h1 (zf P h2 K) s
 | [],s=>rfl
 | i::h1,s=>by
   have e:zf P (h1++h2) K=zf P h1 (zf P h2 K):=funext fun s=>xS h2 K h1 s
   simp only [List.cons_append,zf,e]
theorem zfF {l1:List (Option Tmp × Pl.VP GW)} {d t:Nat} {V:Pl.VP GW} (h:d≠t):Pl.lk (l1++[(some d,V)]) t=Pl.lk l1 t:=by
 induction l1 with
 | nil=>simp [Pl.lk,h]
 | cons x l1 ih=>obtain⟨e,V'⟩:=x;simp only [List.cons_append,Pl.lk,ih]
theorem VL {p:PV} {K K':List PV->Prop} (h:∀ cs,K cs->K' cs):qW p K->qW p K':=by
 cases p<;>intro h'<;>first | exact h _ h' | exact⟨h'.1,h _ h'.2⟩ | exact h'.elim
theorem zax {s2 s3:PS} {x y:PO} {n:Nat} {K:PS->Prop} (hx:s3.ev x=s2.ev x) (hy:s3.ev y=s2.ev y) (hb:s3.b=s2.b) (h:PK.e P (.st x y n) none s3 K):PK.e P (.st x y n) none s2 fun s4=>s4.t=s2.t/\K ⟨s3.t,s4.b⟩:=by
 simp only [PK.e,hx,hy,hb] at h ⊢
 split at h
 ·rename_i i o hb1
  split at h
  ·rename_i cs hcs
   exact VL (fun us h=>⟨h.1,h.2.1,rfl,h.2.2⟩) h
  ·exact h.elim
 ·exact h.elim
theorem JA {fr:Prop} {l:List Oper} {is t':List PI} {m d d' i0 n0:Nat} {x0 xa xb:PO} {zs:List PV} {H:List PI} {Q:PX->PS->Prop} (hc:zI P nt l.toArray l=some is) (hdr:is.drop m=⟨some d,none,.al zs⟩::⟨some d',none,.ex x0 i0⟩::⟨none,none,.st xa xb n0⟩::t')
 (hF:zeQ l.toArray (m+1) nt=true) (hT:yK l.toArray (m+2)=true) (hdd':d≠d') (hna:jY d' xa=true) (hnb:jY d' xb=true) (hnx:jY d x0=true) (hrd:∀ o,l[m+1]? = some o->d ∉ zA o)
 (hq:zf P (is.take m++[⟨some d',none,.ex x0 i0⟩]) (qZ P fr H s (⟨some d,none,.al zs⟩::⟨none,none,.st xa xb n0⟩::t') (Q .n)) s) (h:RA B nt g s a w) :
 wpAny P .any l.toArray (QL B nt Q) l.toArray.size (Array.replicate l.toArray.size false) a w.drew:=by
 obtain⟨hsz,hR,hlead,hback⟩:=zeR hF
 simp only [List.size_toArray] at hsz
 obtain⟨hc1,hc2⟩:=qz m l is hc (by omega)
 rw [List.drop_eq_getElem_cons (show m<l.length by omega),List.drop_eq_getElem_cons (show m+1<l.length by omega),List.drop_eq_getElem_cons (show m+1+1<l.length by omega),hdr] at hc2
 obtain⟨o,ho⟩:∃ o,l[m]=o:=⟨_,rfl⟩
 obtain⟨of,hof⟩:∃ o,l[m+1]=o:=⟨_,rfl⟩
 obtain⟨os,hos⟩:∃ o,l[m+1+1]=o:=⟨_,rfl⟩
 rw [ho,hof,hos] at hc2
 have one:∀ {o:Oper} {l':List Oper} {d:Option Nat} {k:PK} {t:List PI},zI P nt l.toArray (o::l')=some (⟨d,none,k⟩::t)->vd nt o.dst=true/\o.guard=none/\o.dst=d/\XR P o=some k/\zI P nt l.toArray l'=some t:=fun {o l' d k t} hc2=>by
  simp only [zI,Option.bind_eq_some_iff] at hc2
  obtain⟨k',hk,r,hr,hc2⟩:=hc2
  split at hc2
  ·rename_i hdk
   split at hc2
   ·rename_i hg0
    simp only [Option.some.injEq,List.cons.injEq,PI.mk.injEq] at hc2
    exact⟨hdk,hg0,hc2.1.1,by rw [<-hc2.1.2.2];exact hk,by rw [<-hc2.2];exact hr⟩
   ·simp only [Option.bind_eq_some_iff] at hc2
    obtain⟨t,_,hc2⟩:=hc2
    split at hc2
    ·simp only [Option.some.injEq,List.cons.injEq,PI.mk.injEq] at hc2
     cases hc2.1.2.1
    ·cases hc2
  ·cases hc2
 obtain⟨hdk,hg0,hdst,hk,hc3⟩:=one hc2
 obtain⟨hdkf,hgf,hdstf,hkf,hc4⟩:=one hc3
 obtain⟨hdks,hgs,hdsts,hks,hr⟩:=one hc4
 rw [xS] at hq
 obtain⟨e,hoe,hz⟩:=comp_inv hk
 obtain⟨i,z,g1,g2,rfl,g4⟩:=qJ hz
 have hrun:∀(a:Act) (w:World),(execOp a.eval o).run P w=.ok (.value (.pointer (some ⟨w.heap.size,0,none⟩))) (w.alloc (.cells z.cells e)):=fun a w=>by
  have hzv:(zeroValue e).run P w=.ok z w:=by simp [zeroValue,typeInfo,g1,g2]
  simp [execOp,hoe,Instr.alloc,hzv,newVar,newRow]
 have hw0:w.drew.heap.size=w.heap.size:=rfl
 have hlow:∀ S:GW,CG w.drew S->∀ b,b<w.heap.size->b ∉ S.1:=fun S hS b hb hm=>by have:=(hS.2 b hm).1;omega
 have hcell:∀ w',Keep qe w.drew w'->∀ b o x,g.D b o->w.cell? ⟨b,o,none⟩=some x->w'.cell? ⟨b,o,none⟩=some x:=fun w' hk b o x _ hx=>qa (qu hk) (show b<w.drew.heap.size from qF hx) hx
 have hnd':∀ a':Act,a'.tmps.size=nt->∀ t,some d=some t->t<a'.tmps.size:=fun a' ha t ht=>by
  cases ht
  rw [hdst] at hdk
  rw [ha];simpa [vd] using hdk
 have hnf':∀ a':Act,a'.tmps.size=nt->∀ t,some d'=some t->t<a'.tmps.size:=fun a' ha t ht=>by
  cases ht
  rw [hdstf] at hdkf
  rw [ha];simpa [vd] using hdkf
 have h0:∀ S:GW,CG w.drew S->∀ t,Rel (fun b o=>(g.D b o\/w.heap.size<=b)/\b ∉ S.1) g.ρ s.b.length S.2 (a.tmps.getD t undef) (s.get t):=fun S hS t=>(h.1.slots t).mono (fun b o hD=>⟨.inl hD,hlow S hS b (h.1.dlt b o hD)⟩) (hcell S.2 hS.1) (Nat.le_refl _) fun _ _=>rfl
 have hbox:∀ S:GW,CG w.drew S->∀(i:Nat) cs,s.b[i]? = some cs->zaA ⟨fun b o=>(g.D b o\/w.heap.size<=b)/\b ∉ S.1,g.ρ⟩ s.b.length S.2 i cs:=fun S hS i cs hi=>by
  obtain⟨_,vs,e,hv,hz,hb⟩:=h.1.boxes i cs hi
  have hlt:g.ρ i<w.drew.heap.size:=h.1.ρlt (List.getElem?_eq_some_iff.1 hi).1
  exact⟨vs,e,(hS.1.block _ hlt fun h=>h).trans hv,hz,fun j p hp=>⟨(hb j p hp).1.mono (fun b o hD=>⟨.inl hD,hlow S hS b (h.1.dlt b o hD)⟩) (hcell S.2 hS.1) (Nat.le_refl _) fun _ _=>rfl,(hb j p hp).2⟩⟩
 have hgl:∀ S:GW,CG w.drew S->GL (fun b o=>(g.D b o\/w.heap.size<=b)/\b ∉ S.1) S.2:=fun S hS=>h.1.gl.mono (fun b o hD=>⟨.inl hD,hlow S hS b (h.1.dlt b o hD)⟩) (hcell S.2 hS.1)
 obtain⟨stp,hstp⟩:∃ stp:Nat->(Act->GW->Prop)->Act->GW->Prop,stp=fun i K a S=>wpOp P l.toArray (QL B nt Q) i (fun a' w'=>∃ F',K a' (F',w')) a S.2:=⟨_,rfl⟩
 obtain⟨T,hTT⟩:∃ T:Nat->Act->GW->Prop,T=fun k a S=>wpList P l.toArray (QL B nt Q) (l.drop k) a S.2:=⟨_,rfl⟩
 have main:Pl.walkE (J1 P (QL B nt Q)) a (([],w.drew):GW) (CG w.drew) (fun env=>(∀ S,CG w.drew S->Pl.Kpo.kp (([],w.drew):GW) S->Pl.finG (T (m+1+1)) S env a)/\∀ S,CG w.drew S->Pl.Kpo.kp (([],w.drew):GW) S->Pl.finG (fun a S=>stp (m+1+1) (fun a S=>stp (m+1) (T (m+1+2)) a S) a S) S (env.take (m+1)) a) (l.take m++[o,of]) []:=by
  have:=yp (P:=P) (D:=fun b o=>g.D b o\/w.heap.size<=b) (ρ:=g.ρ) (Q:=QL B nt Q) (E:=fun env=>(∀ S,CG w.drew S->Pl.Kpo.kp (([],w.drew):GW) S->Pl.finG (T (m+1+1)) S env a)/\∀ S,CG w.drew S->Pl.Kpo.kp (([],w.drew):GW) S->Pl.finG (fun a S=>stp (m+1+1) (fun a S=>stp (m+1) (T (m+1+2)) a S) a S) S (env.take (m+1)) a) (s0:=s) (a0:=a) (w0:=w.drew) (nh:=m) (nh':=m+2) (by omega) hR (l2:=[o,of])
   (K:=zf P [⟨some d',none,.ex x0 i0⟩] (qZ P fr H s (⟨some d,none,.al (z.cells.toList.map Q6)⟩::⟨none,none,.st xa xb n0⟩::t') (Q .n)))
   h0 hbox hgl (fun b o hb=>.inr hb)
   (fun ps hdd hln hds hown hlt ⟨s',hE,hK⟩=>by
     have hK:PK.q P s' (.ex x0 i0) fun p=>p.own=none/\qZ P fr H s (⟨some d,none,.al (z.cells.toList.map Q6)⟩::⟨none,none,.st xa xb n0⟩::t') (Q .n) (s'.put (some d') p):=hK
     obtain⟨p,⟨hpo,hK⟩,h2⟩:=zat (.ex x0 i0) _ hK
     have hnb1:s'.b.length=s.b.length:=by rw [hE.2,qp]
     obtain⟨s2,hs2⟩:∃ s2,PS.put ⟨s'.t,s'.b++[z.cells.toList.map Q6]⟩ (some d) (.bx s'.b.length 0)=s2:=⟨_,rfl⟩
     obtain⟨s3,hs3⟩:∃ s3,PS.put ⟨(s'.put (some d') p).t,s'.b++[z.cells.toList.map Q6]⟩ (some d) (.bx s'.b.length 0)=s3:=⟨_,rfl⟩
     have hK3:PK.e P (.st xa xb n0) none s3 (ze P t' (Q .n)):=by rw [<-hs3];exact hK
     have hs2t:s2.t=(d,.bx s'.b.length 0)::s'.t:=by rw [<-hs2];rfl
     have hs3t:s3.t=(d,.bx s'.b.length 0)::(d',p)::s'.t:=by rw [<-hs3];rfl
     have hs23:s3.b=s2.b:=by rw [<-hs3,<-hs2];rfl
     have ev23:∀ x,jY d' x=true->s3.ev x=s2.ev x:=fun x hx=>by
      cases x with
      | t i=>
        simp only [jY,Bool.not_eq_true',beq_eq_false_iff_ne] at hx
        show yr s3.t i=yr s2.t i
        rw [hs3t,hs2t]
        simp only [yr]
        rw [if_neg (fun e:d'=i=>hx e.symm)]
      | c p=>rfl
      | f p=>rfl
     have eq23:∀ b',EqS ⟨(d',p)::s2.t,b'⟩ ⟨s3.t,b'⟩:=fun b'=>by
      refine⟨fun t=>?_,rfl⟩
      show yr ((d',p)::s2.t) t=yr s3.t t
      rw [hs3t,hs2t]
      simp only [yr]
      by_cases e1:d'=t
      ·rw [if_pos e1,if_neg (fun e2=>hdd' (e2.trans e1.symm)),if_pos e1]
      ·rw [if_neg e1,if_neg e1]
     -- at the end of the head,but for what floats
     have atEnd:∀ S:GW,CG w.drew S->∀(F:Act->GW->Prop) (l2:List (Option Tmp × Pl.VP GW)),(∀(a2:Act) (g2:Gh),RA B nt g2 s2 a2 S.2->(∀ u,VG (fun b o=>g.D b o\/w.heap.size<=b) g.ρ s.b.length p u S->Rel g2.D g2.ρ s2.b.length S.2 u p)->Pl.finG F S l2 a2)->Pl.finG F S (qw (fun b o=>g.D b o\/w.heap.size<=b) g.ρ s.b.length ps++((some d,VA z.cells e)::l2)) a:=fun S hS F l2 hF=>by
      have hb:=qu hS.1
      refine ki _ _ ?_
      have hg:R B ⟨fun b o=>((g.D b o\/w.heap.size<=b)/\b ∉ S.1)/\b<S.2.heap.size,g.ρ⟩ s (zB a) S.2:=h.1.drew.grow hb _ (fun b o hD=>⟨⟨.inl hD,hlow S hS b (h.1.dlt b o hD)⟩,Nat.lt_of_lt_of_le (h.1.dlt b o hD) hb.size⟩) (fun b o hD=>hD.1.1) (fun b o hD=>hD.2)
      refine yL ps s a hdd hown hlt (fun b o hD=>hD) ⟨hg,h.2⟩ rfl fun a' ha' hsame=>?_
      have ha2:=ha'.eqS hE
      intro u hu
      obtain⟨b,m1,rfl,m3⟩:=hu
      have hbw:=(hS.2 b m1).1
      have hcd:=yT (D:=fun b o=>((g.D b o\/w.heap.size<=b)/\b ∉ S.1)/\b<S.2.heap.size) (w:=S.2) g4
      have hso:∀ u q,zQ ⟨fun b o=>((g.D b o\/w.heap.size<=b)/\b ∉ S.1)/\b<S.2.heap.size,g.ρ⟩ s' (zB a') S.2 u q->q.own≠none->zQ g s (zB a) w u q:=by
       rintro u q (⟨t,rfl,rfl⟩ | ⟨i,j,cs,q1,q2,q3⟩) ho
       ·rw [hE.1] at ho ⊢
        rcases jk (D:=g.D) (ρ:=g.ρ) (nb:=s.b.length) (t:=t) ps s hdd with⟨p,hp1,_,e2⟩ | ⟨e1,e2⟩
        ·rw [e2] at ho
         exact absurd (hown _ hp1) ho
        ·rw [e2]
         refine .inl ⟨t,hsame t fun x hx e=>?_,rfl⟩
         exact ZP (D:=g.D) (ρ:=g.ρ) (nb:=s.b.length) ps x.2 (by rw [<-e];exact hx) e1
       ·rw [hE.2,qp] at q1
        refine .inr ⟨i,j,cs,q1,q2,?_⟩
        rw [<-q3]
        exact(hb.cell (p:=⟨g.ρ i,j,none⟩) (h.1.ρlt (List.getElem?_eq_some_iff.1 q1).1)).symm
      have hR2:=ha2.1.boxAt (some d) z.cells e (z.cells.toList.map Q6) hcd.1 m3 (.inl (Nat.le_trans h.1.fr.size hbw)) (fun i hi e=>by
       rw [hnb1] at hi
       have:=h.1.ρlt hi
       have e':g.ρ i=b:=e
       omega) (fun o hD=>hD.1.2 m1) (fun u q hs ho e=>by
       have hs':=hso u q hs ho
       have:=(zX (h.1.owns u q hs') ho e).1
       omega) (fun i p hp=>⟨.dat (hcd.2 i p hp).1,(hcd.2 i p hp).2⟩) (fun p hp=>by
       obtain⟨v,_,rfl⟩:=List.mem_map.1 hp
       unfold Q6;split<;>rfl)
      rw [<-zN (hnd' a' ha'.2.2),hs2] at hR2
      refine hF _ _ ⟨hR2,by rw [(zD _ _ _).2];exact ha'.2.1,by rw [(zD _ _ _).1];exact ha'.2.2⟩ fun u hu=>?_
      refine(Rel.restrict hu).mono (fun b o hD=>hD) (fun _ _ _ _ h=>h) (by rw [<-hs2];simp [PS.put,hnb1]) fun i hi=>?_
      show (if i=s'.b.length then b else g.ρ i)=g.ρ i
      rw [if_neg (by omega)]
     refine⟨VA z.cells e,fun u S S' h hk=>VA.stab h hk,?_,VG (fun b o=>g.D b o\/w.heap.size<=b) g.ρ s.b.length p,fun u S S' h hk=>VG.stab h hk,?_,fun S hS _=>?_,fun S hS _=>?_⟩
     ·unfold Pl.stepOk
      rw [hg0]
      intro a' S hS _ _ K hK
      show o.upon P a' (fun a' w'=>∃ F',K a' (F',w')) (QL B nt Q) ((execOp a'.eval o).run P S.2)
      rw [hrun]
      have hk1:Keep qe S.2 (S.2.alloc (.cells z.cells e)):=(Keep.refl _ _).alloc _
      refine⟨S.2.heap.size::S.1,hK _ (S.2.heap.size::S.1,_) ⟨hk1,fun b hb=>List.mem_cons_of_mem _ hb,fun b hb=>?_⟩ ⟨hS.1.trans hk1,fun b hb=>?_⟩ ⟨_,List.mem_cons_self,rfl,World.alloc_heap_new _ _⟩⟩
      ·rcases List.mem_cons.1 hb with rfl | hb
       ·exact .inr (Nat.le_refl _)
       ·exact .inl hb
      ·rcases List.mem_cons.1 hb with rfl | hb
       ·exact⟨hS.1.size,by simp⟩
       ·exact⟨(hS.2 b hb).1,Nat.lt_of_lt_of_le (hS.2 b hb).2 hk1.size⟩
     ·unfold Pl.stepOk
      rw [hgf]
      intro a' S hS _ hr2 K2 hK2
      have hrdf:Rd (fun b o=>(g.D b o\/w.heap.size<=b)/\b ∉ S.1) g.ρ s' (zB a') (zA of) S.2:=by
       refine⟨fun t ht=>?_,fun i cs hcs=>?_,hgl S hS⟩
       ·rw [hE.2,qp,hE.1]
        have hdt:d≠t:=fun e=>hrd of (by rw [List.getElem?_eq_getElem (show m+1<l.length by omega),hof]) (by rw [e];exact ht)
        revert ht
        generalize zA of=ts at hr2 ⊢
        induction ts with
        | nil=>intro ht;cases ht
        | cons t' ts ih=>
          intro ht
          obtain⟨h1,h2⟩:=hr2
          rcases List.mem_cons.1 ht with rfl | ht
          ·rw [hdst,zfF hdt] at h1
           rcases jk (D:=fun b o=>g.D b o\/w.heap.size<=b) (ρ:=g.ρ) (nb:=s.b.length) (t:=t) ps s hdd with⟨p,_,e1,e2⟩ | ⟨e1,e2⟩
           ·rw [e1] at h1
            obtain⟨u,hu,hv⟩:=h1
            rw [e2]
            have:zB a' t=u:=hu.2.1
            rw [this];exact hv
           ·rw [e1] at h1
            rw [e2]
            have:zB a' t=a.tmps.getD t undef:=h1.2.1
            rw [this];exact h0 S hS t
          ·exact ih h2 ht
       ·rw [hE.2,qp] at hcs ⊢
        exact hbox S hS i cs hcs
      obtain⟨p',rfl,_,hq3⟩:=y9 hkf hrdf h2
      refine hq3 (fun a' w'=>∃ F',K2 a' (F',w')) (QL B nt Q) fun u w' hb hrel _=>⟨S.1,?_⟩
      have hk4:Keep qe S.2 w':=Keep.of_below' hb (Nat.le_refl _)
      refine hK2 u (S.1,w') ⟨hk4,fun _ h=>h,fun _ h=>.inl h⟩ ⟨hS.1.trans hk4,fun b hb'=>⟨(hS.2 b hb').1,Nat.lt_of_lt_of_le (hS.2 b hb').2 hk4.size⟩⟩ ?_
      rw [hE.2,qp] at hrel
      refine Rel.mono hrel (fun b o h=>?_) (fun _ _ _ _ h=>h) (Nat.le_refl _) fun _ _=>rfl
      rcases h with h | h
      ·exact h
      ·exact⟨.inr (Nat.le_trans hS.1.size h),fun hm=>by have:=(hS.2 b hm).2;omega⟩
     ·rw [hdst,hdstf,List.append_assoc]
      refine atEnd S hS _ _ fun a2 g2 hA hV=>?_
      intro u hu
      have hR3:=hA.1.put (some d') (hV u hu) (.none hpo)
      rw [<-zN (hnf' a2 hA.2.2)] at hR3
      rw [hTT]
      show wpList P l.toArray (QL B nt Q) (l.drop (m+1+1)) (a2.put (some d') u) S.2
      rw [List.drop_eq_getElem_cons (show m+1+1<l.length by omega),hos]
      exact list_sound _ _ ⟨s3.t,s3.b⟩ _ _ _ hc4 hK3 (RA.eqS ⟨hR3,by rw [(zD _ _ _).2];exact hA.2.1,by rw [(zD _ _ _).1];exact hA.2.2⟩ (by
       obtain⟨q1,q2⟩:=eq23 s3.b
       refine⟨fun t=>(q1 t).symm.trans ?_,hs23⟩
       rfl))
     ·have etake:(qw (fun b o=>g.D b o\/w.heap.size<=b) g.ρ s.b.length ps++[(o.dst,VA z.cells e)]++[(of.dst,VG (fun b o=>g.D b o\/w.heap.size<=b) g.ρ s.b.length p)]).take (m+1)=qw (fun b o=>g.D b o\/w.heap.size<=b) g.ρ s.b.length ps++[(some d,VA z.cells e)]:=by
       rw [List.take_append_of_le_length (by simp [qw,hln]),List.take_of_length_le (by simp [qw,hln]),hdst]
      rw [etake]
      refine atEnd S hS _ [] fun a2 g2 hA _=>?_
      have hst:=zax (ev23 xa hna) (ev23 xb hnb) hs23 hK3
      have hE1:=ZO (o:=os) (B:=B) (a:=a2) (w:=S.2) (s:=s2) hks (by rw [hdsts];intro t ht;cases ht) hA.1 (by rw [hdsts];exact hst)
      show stp (m+1+1) _ a2 S
      rw [hstp]
      simp only [wpOp,List.getElem?_toArray,List.getElem?_eq_getElem (show m+1+1<l.length by omega),hos]
      rw [if_pos (by simp [Region.wanted,hgs])]
      refine .inl (hE1 _ _ ?_)
      rintro s4 g4 u4 w4 ⟨e4,hk4⟩ hR4
      refine⟨[],?_⟩
      simp only [wpOp,List.getElem?_toArray,List.getElem?_eq_getElem (show m+1<l.length by omega),hof]
      rw [if_pos (by simp [Region.wanted,hgf])]
      rw [hdsts] at hR4 ⊢
      have hsz4:(a2.put none u4).tmps.size=nt:=by rw [(zD _ _ _).1];exact hA.2.2
      have evx:s4.ev x0=s'.ev x0:=by
       cases x0 with
       | t i=>
         simp only [jY,Bool.not_eq_true',beq_eq_false_iff_ne] at hnx
         show yr s4.t i=yr s'.t i
         rw [e4,hs2t]
         simp only [yr]
         rw [if_neg (fun e:d=i=>hnx e.symm)]
       | c p=>rfl
       | f p=>rfl
      have hex:PK.e P (.ex x0 i0) of.dst s4 fun s5=>s5=⟨(d',p)::s4.t,s4.b⟩:=by
       show PK.q P s4 (.ex x0 i0) fun y=>s4.put of.dst y=⟨(d',p)::s4.t,s4.b⟩
       simp only [PK.q,evx] at h2 ⊢
       split at h2
       ·split at h2
        ·rw [h2,hdstf];rfl
        ·exact h2.elim
       ·exact h2.elim
      have hE2:=ZO (o:=of) (B:=B) (a:=a2.put none u4) (w:=w4) (s:=s4) hkf (by rw [hdstf];exact hnf' _ hsz4) hR4 hex
      refine .inl (hE2 _ _ ?_)
      rintro s5 g5 u5 w5 rfl hR5
      refine⟨[],?_⟩
      rw [hTT]
      show wpList P l.toArray (QL B nt Q) (l.drop (m+1+1+1)) _ w5
      refine list_sound _ _ ⟨s3.t,s4.b⟩ _ _ _ hr hk4 (RA.eqS ⟨hR5,?_,?_⟩ (by
       obtain⟨q1,q2⟩:=eq23 s4.b
       refine⟨fun t=>?_,rfl⟩
       rw [e4]
       exact(q1 t).symm))
      ·rw [(zD _ _ _).2,(zD _ _ _).2];exact hA.2.1
      ·rw [(zD _ _ _).1];exact hsz4)
   (l.take m) (is.take m) [] s (EqS.refl _) hc1 (by simp;omega) (fun j hj=>by
     have hj':j<m:=by simp at hj;omega
     simp [List.getElem?_take,hj']) (fun j x h=>by simp at h) List.Pairwise.nil (by simp) hq
  simpa [qw] using this
 have etk:l.take (m+1+1)=l.take m++[o,of]:=by
  rw [List.take_succ_eq_append_getElem (show m+1<l.length by omega),List.take_succ_eq_append_getElem (show m<l.length by omega),ho,hof]
  simp
 rw [<-etk] at main
 subst hstp
 subst hTT
 refine Pl.greadyF (Ω:=GW) (ops:=l.toArray) (nh:=m+1) (a0:=a) (w0:=([],w.drew)) (C:=CG w.drew) rfl (J1 P (QL B nt Q)) (fun i K a S=>wpOp P l.toArray (QL B nt Q) i (fun a' w'=>∃ F',K a' (F',w')) a S.2) (fun n listed a S=>wpAny P .any l.toArray (QL B nt Q) n listed a S.2) (fun a S=>QL B nt Q .normal a S.2) (fun k a S=>wpList P l.toArray (QL B nt Q) (l.drop k) a S.2)
  ?_ (fun i K K' a w hk hs=>wpOp_mono (fun a w ⟨F,h⟩=>⟨F,hk _ _ h⟩) hs) (fun listed a w h1 h2=>⟨h1,h2⟩) (fun fuel listed a w h1 h2=>⟨h1,fun i hi=>wpOp_mono (fun a w ⟨F,h⟩=>h) (h2 i hi)⟩) ?_ ?_ hR hlead hback hT (by simpa using hsz) h.2.2 ⟨Keep.refl _ _,fun b hb=>by cases hb⟩ main
 ·intro i o K a S ho hs
  unfold wpOp
  simp only [ho]
  split
  ·rename_i hw;rw [if_pos hw] at hs;exact .inl hs
  ·rename_i hw;rw [if_neg hw] at hs;exact⟨S.1,hs⟩
 ·intro k a S hk ht
  have hk':k<l.length:=by simpa using hk
  simp only [List.drop_eq_getElem_cons hk',wpList] at ht
  unfold wpOp
  simp only [List.getElem?_toArray,List.getElem?_eq_getElem hk']
  split
  ·rename_i hw
   rw [if_pos hw] at ht
   exact ht.imp (Oper.wp_mono fun a w h=>⟨[],h⟩) id
  ·rename_i hw
   rw [if_neg hw] at ht
   exact⟨[],ht⟩
 ·intro a w ht
  simpa [wpList] using ht
theorem zcP {s s4:PS} (h:∀ t,s4.get t=s.get t) (x:PO):s4.ev x=s.ev x:=by
 cases x with
 | t i=>exact h i
 | c p=>rfl
 | f p=>rfl
theorem zgn {k:PK} (hk:QI k=true) {s s4:PS} (h:∀ t,s4.get t=s.get t) (K:PV->Prop):PK.q P s4 k K=PK.q P s k K:=by
 have hev:=zcP h
 have hbd:∀ y n (K:Nat->Prop),qBd s4 y n K=qBd s y n K:=fun y n K=>by cases y<;>simp only [qBd,hev]
 cases k<;>first | (simp only [PK.q,hev,hbd];done) | cases hk
def Hist (P:Program) (Kt:PS->Prop):List PI->PS->List (Option Nat × PV)->Prop
 | [],s,[]=>Kt s
 | i::l,s,(d,p)::qs=>i.d=d/\p.own=none/\i.k.q P s (fun y=>y=p)/\Hist P Kt l (s.put d p) qs
 | _,_,_=>False
theorem Hist.len {Kt:PS->Prop}:∀ {l:List PI} {s:PS} {qs:List (Option Nat × PV)},Hist P Kt l s qs->qs.length=l.length/\Kt (zy s qs)/\qs.map (·.1)=l.map (·.d)
 | [],s,[],h=>⟨rfl,h,rfl⟩
 | i::l,s,(d,p)::qs,h=>by
   obtain⟨h1,h2,h3⟩:=Hist.len h.2.2.2
   exact⟨by simp [h1],h2,by simp [h3,h.1]⟩
 | [],_,_::_,h=>h.elim
 | _::_,_,[],h=>h.elim
theorem Hist.drop {Kt:PS->Prop}:∀ {l:List PI} {s:PS} {qs:List (Option Nat × PV)} (c:Nat),Hist P Kt l s qs->Hist P Kt (l.drop c) (zy s (qs.take c)) (qs.drop c)
 | l,s,qs,0,h=>by simpa [zy] using h
 | [],s,[],c+1,h=>h
 | i::l,s,(d,p)::qs,c+1,h=>by simpa [zy] using Hist.drop c h.2.2.2
 | [],_,_::_,c+1,h=>h.elim
 | _::_,_,[],c+1,h=>h.elim
theorem vX:∀(qs:List (Option Nat × PV)) {s s4:PS},(∀ t,s4.get t=s.get t)->∀ t,(zy s4 qs).get t=(zy s qs).get t
 | [],s,s4,h,t=>h t
 | (d,p)::qs,s,s4,h,t=>by
   refine vX qs (s:=s.put d p) (s4:=s4.put d p) (fun t=>?_) t
   cases d with
   | none=>exact h t
   | some d=>
     by_cases e:d=t
     ·subst e;rw [zF,zF]
     ·rw [zV _ _ e,zV _ _ e];exact h t
def zgD (P:Program) (Q:Exit->Act->World->Prop) (K:Act->World->Prop):List Oper->Act->World->Prop
 | [],a,w=>K a w
 | o::l,a,w=>o.wp P a w (zgD P Q K l) Q
theorem zd4 {ops:Array Oper} {Kt:PS->Prop} {Q:Exit->Act->World->Prop} {K:Act->World->Prop}:∀(l:List PI) (lo:List Oper) (s:PS) (qs:List (Option Nat × PV)) (s4:PS) (g4:Gh) (a:Act) (w:World),Hist P Kt l s qs->zI P nt ops lo=some l->(∀ i ∈ l,i.g=none/\QI i.k=true)->(∀ t,s4.get t=s.get t)->RA B nt g4 s4 a w ->
 (∀ g5 a5 w5,RA B nt g5 (zy s4 qs) a5 w5->K a5 w5)->zgD P Q K lo a w
 | [],lo,s,qs,s4,g4,a,w,hh,hc,hs,he,h,hK=>by
   cases lo with
   | nil=>
     cases qs with
     | nil=>exact hK g4 a w h
     | cons q qs=>exact hh.elim
   | cons o lo=>
     simp only [zI,Option.bind_eq_some_iff] at hc
     obtain⟨k,_,r,_,hc⟩:=hc
     split at hc
     ·split at hc
      ·cases hc
      ·simp only [Option.bind_eq_some_iff] at hc
       obtain⟨t,_,hc⟩:=hc
       split at hc<;>cases hc
     ·cases hc
 | i::l,[],s,qs,s4,g4,a,w,hh,hc,hs,he,h,hK=>by cases hc
 | i::l,o::lo,s,[],s4,g4,a,w,hh,hc,hs,he,h,hK=>hh.elim
 | i::l,o::lo,s,(d,p)::qs,s4,g4,a,w,hh,hc,hs,he,h,hK=>by
   obtain⟨hd,hp,hq,hh'⟩:=hh
   obtain⟨hg,hsk⟩:=hs i (by simp)
   simp only [zI,Option.bind_eq_some_iff] at hc
   obtain⟨k,hk,r,hr,hc⟩:=hc
   have hc2:vd nt o.dst=true/\o.dst=d/\i.k=k/\r=l:=by
    split at hc
    ·rename_i hdk
     split at hc
     ·simp only [Option.some.injEq,List.cons.injEq] at hc
      obtain⟨rfl,rfl⟩:=hc
      exact⟨hdk,hd,rfl,rfl⟩
     ·simp only [Option.bind_eq_some_iff] at hc
      obtain⟨t,_,hc⟩:=hc
      split at hc
      ·simp only [Option.some.injEq,List.cons.injEq] at hc
       obtain⟨rfl,rfl⟩:=hc
       cases hg
      ·cases hc
    ·cases hc
   obtain⟨hdk,hod,rfl,rfl⟩:=hc2
   have hd':∀ t,o.dst=some t->t<a.tmps.size:=fun t ht=>by
    rw [ht] at hdk
    rw [h.2.2];simpa [vd] using hdk
   have hq4:PK.q P s4 i.k fun y=>y=p:=by rw [zgn hsk he];exact hq
   obtain⟨p',rfl,hpo,hq5⟩:=y9 hk (h.1.rd (o:=o)) hq4
   have hE:=Z0 (K:=fun s5=>s5=s4.put o.dst p') hd' h.1 ⟨p',rfl,hpo,hq5⟩
   refine hE _ _ ?_
   rintro s5 g5 u w5 rfl hR5
   refine zd4 _ lo _ qs _ g5 _ w5 hh' hr (fun j hj=>hs j (by simp [hj])) (fun t=>?_) ⟨hR5,by rw [(zD _ _ _).2];exact h.2.1,by rw [(zD _ _ _).1];exact h.2.2⟩ (fun g6 a6 w6 h6=>hK g6 a6 w6 (by
    have e:zy s4 ((d,p')::qs)=zy (s4.put o.dst p') qs:=by rw [hod];rfl
    rw [e];exact h6))
   rw [hod]
   cases d with
   | none=>exact he t
   | some d=>
     by_cases e:d=t
     ·subst e;rw [zF,zF]
     ·rw [zV _ _ e,zV _ _ e];exact he t
theorem VM {k:IntKind} {n:Int} {K K':PV->Prop} (h:∀ p,K p->K' p):qar k n K->qar k n K':=by
 unfold qar
 split
 ·exact fun hk=>⟨hk.1,h _ hk.2⟩
 ·exact h _
theorem zbA {op:BinOp} {k:IntKind} {m n:Int} {K K':PV->Prop} (h:∀ p,K p->K' p):Xo op k m n K->Xo op k m n K':=by
 unfold Xo
 split<;>first | exact VM h | exact fun hk=>⟨hk.1,VM h hk.2⟩ | exact fun hk=>⟨hk.1,h _ hk.2⟩ | exact h _ | exact id
theorem VK {s:PS} {y:Option PO} {n:Nat} {K K':Nat->Prop} (h:∀ m,K m->K' m):qBd s y n K->qBd s y n K':=by
 unfold qBd
 split
 ·exact h _
 ·unfold vR
  split
  ·exact fun hk=>⟨hk.1,h _ hk.2⟩
  ·exact id
theorem Kk {k:PK} (hk:QI k=true) {K K':PV->Prop} (h:∀ p,K p->K' p):PK.q P s k K->PK.q P s k K':=by
 cases k<;>try (cases hk;done)
 case bin op x y=>
  simp only [PK.q,QB]
  split
  ·exact fun hk=>⟨hk.1,zbA h hk.2⟩
  ·exact id
 case not x=>
  simp only [PK.q,qV]
  split
  ·exact h _
  ·exact id
 case cv c x=>
  simp only [PK.q,vR]
  split
  ·exact h _
  ·exact id
 case ln x=>
  simp only [PK.q,QA]
  split
  ·exact h _
  ·exact id
 case ex x i=>
  simp only [PK.q]
  split
  ·split
   ·exact h _
   ·exact id
  ·exact id
 case sc x lo hi n=>
  simp only [PK.q,QA]
  split
  ·exact VK fun _=>VK fun _ hk=>⟨hk.1,hk.2.1,hk.2.2.1,h _ hk.2.2.2⟩
  ·exact id
theorem K1 {Kt:PS->Prop}:∀(l:List PI) (s:PS),(∀ i ∈ l,i.g=none/\QI i.k=true)->zf P l Kt s->∃ qs,Hist P Kt l s qs
 | [],s,_,h=>⟨[],h⟩
 | i::l,s,hg,h=>by
   have hi:=(hg i (by simp)).1
   have h':i.k.q P s fun p=>p.own=none/\zf P l Kt (s.put i.d p):=by
    have h:i.guard s (fun s=>i.k.q P s fun p=>p.own=none/\zf P l Kt (s.put i.d p)) (fun s=>zf P l Kt (s.put i.d (.v undef))):=h
    unfold PI.guard at h
    rw [hi] at h
    exact h
   obtain⟨p,⟨ho,hp⟩,h2⟩:=zat i.k _ h'
   obtain⟨qs,hq⟩:=K1 l _ (fun j hj=>hg j (by simp [hj])) hp
   exact⟨(i.d,p)::qs,rfl,ho,h2,hq⟩
theorem Yv {Kt:PS->Prop}:∀(l:List PI) (s:PS) (qs:List (Option Nat × PV)),(∀ i ∈ l,i.g=none/\QI i.k=true)->Hist P Kt l s qs->zf P l (fun s'=>s'=zy s qs) s
 | [],s,[],_,_=>rfl
 | i::l,s,(d,p)::qs,hg,h=>by
   obtain⟨hd,ho,h2,h3⟩:=h
   have hi:=hg i (by simp)
   show i.guard s (fun s'=>i.k.q P s' fun p'=>p'.own=none/\zf P l _ (s'.put i.d p')) (fun s'=>zf P l _ (s'.put i.d (.v undef)))
   unfold PI.guard
   rw [hi.1]
   refine Kk hi.2 (fun p' hp'=>?_) h2
   subst hp'
   refine⟨ho,?_⟩
   rw [hd]
   exact Yv l _ qs (fun j hj=>hg j (by simp [hj])) h3
 | [],_,_::_,_,h=>h.elim
 | _::_,_,[],_,h=>h.elim
theorem KI {ops:Array Oper} {nh r nt:Nat} (h:zck ops nh r nt=true):1<=r/\nh+r+1<=ops.size/\Pl.ChkR ops (nh+r) nt/\(∀ i,i<nh->∃ j,j<=nh+r/\i<j/\¬(nh<=j/\j<nh+r)/\edge ops j i=true)/\(∀ i,nh<=i->i+1<nh+r->edge ops (i+1) i=true)/\(nh+r+1<ops.size->edge ops (nh+r+1) (nh+r - 1)=true):=by
 unfold zck at h
 simp only [Bool.and_eq_true,List.all_eq_true,List.mem_range,decide_eq_true_eq,Bool.or_eq_true] at h
 obtain⟨⟨⟨⟨⟨h0,h1⟩,h2⟩,h3⟩,h4⟩,h5⟩:=h
 refine⟨h0,h1,fun i hi=>?_,fun i hi=>?_,fun i hi hi2=>?_,fun hlt=>h5.resolve_left (by omega)⟩
 ·have h:=h2 i hi
  cases ho:ops[i]? with
  | none=>simp [ho] at h
  | some o=>
    simp only [ho,Bool.and_eq_true,List.all_eq_true] at h
    obtain⟨⟨q1,q2⟩,q3⟩:=h
    refine⟨o,rfl,q1,?_,?_⟩
    ·intro j b hg
     simp only [hg,Bool.and_eq_true,decide_eq_true_eq] at q2
     exact⟨q2.1.1,q2.1.2,q2.2⟩
    ·intro d hd
     simp only [hd,Bool.and_eq_true,decide_eq_true_eq,List.all_eq_true,List.mem_range,Bool.or_eq_true,Bool.not_eq_true',beq_eq_false_iff_ne] at q3
     exact⟨q3.1,fun j hj e=>(q3.2 j hj).resolve_right fun hne=>hne e⟩
 ·have h:=h3 i hi
  simp only [List.any_eq_true,List.mem_range,Bool.and_eq_true,decide_eq_true_eq,Bool.not_eq_true',Bool.and_eq_false_iff,decide_eq_false_iff_not] at h
  obtain⟨j,hj,⟨h5,h6⟩,h7⟩:=h
  exact⟨j,by omega,h5,by omega,h7⟩
 ·have h:=h4 i (by omega)
  simp only [Bool.not_eq_true',Bool.and_eq_false_iff,decide_eq_false_iff_not] at h
  exact h.resolve_left (by omega)
theorem vW (s:PS) (l1 l2:List (Option Nat × PV)):zy s (l1++l2)=zy (zy s l1) l2:=by simp [zy,List.foldl_append]
theorem zfZ {s0 s1:PS} {ps0 ps2 qs:List (Option Nat × PV)} {m c:Nat} (h1:EqS s1 (zy s0 ps0)) (hl0:ps0.length=m) (hl2:ps2.length=m+qs.length) (hd2:ke ps2) (hd0:∀ j,j<m->(ps0[j]?.map (·.1))=ps2[j]?.map (·.1)) (hdq:∀ j,j<qs.length->(qs[j]?.map (·.1))=ps2[m+j]?.map (·.1)) (hE:EqS (zy s1 qs) (zy s0 ps2)) :
 EqS (zy s1 (qs.take c)) (zy s0 (ps2.take (m+c))):=by
 refine⟨fun t=>?_,by rw [qp,qp];exact h1.2.trans (qp _ _)⟩
 by_cases ht:∃ j,c<=j/\j<qs.length/\ps2[m+j]?.map (·.1)=some (some t)
 ·obtain⟨j,hj1,hj2,hj3⟩:=ht
  have hlt:m+j<ps2.length:=by omega
  rw [List.getElem?_eq_getElem hlt] at hj3
  have e3:(ps2[m+j]).1=some t:=by simpa using hj3
  have no:∀ i,i<m+j->∀ x,ps2[i]? = some x->x.1≠some t:=fun i hi x hx e=>by
   have hil:=(List.getElem?_eq_some_iff.1 hx).1
   have:=List.pairwise_iff_getElem.1 hd2 i (m+j) hil hlt hi
   have ex:ps2[i]=x:=(List.getElem?_eq_some_iff.1 hx).2
   rw [ex,e,e3] at this
   rcases this with h | h
   ·cases h
   ·exact h rfl
  rw [qt (ps2.take (m+c)) s0 fun x hx=>by
   obtain⟨i,hi⟩:=List.getElem?_of_mem hx
   rw [List.getElem?_take] at hi
   split at hi
   ·exact no i (by omega) x hi
   ·cases hi]
  rw [qt (qs.take c) s1 fun x hx e=>by
   obtain⟨i,hi⟩:=List.getElem?_of_mem hx
   rw [List.getElem?_take] at hi
   split at hi
   ·rename_i hic
    have hiq:=(List.getElem?_eq_some_iff.1 hi).1
    have:=hdq i hiq
    rw [hi] at this
    have hlt':m+i<ps2.length:=by omega
    rw [List.getElem?_eq_getElem hlt'] at this
    refine no (m+i) (by omega) _ (List.getElem?_eq_getElem hlt') ?_
    simp only [Option.map_some,Option.some.injEq] at this
    rw [<-this,e]
   ·cases hi]
  rw [h1.1,qt ps0 s0 fun x hx e=>by
   obtain⟨i,hi⟩:=List.getElem?_of_mem hx
   have hi0:=(List.getElem?_eq_some_iff.1 hi).1
   have:=hd0 i (by omega)
   rw [hi] at this
   have hlt':i<ps2.length:=by omega
   rw [List.getElem?_eq_getElem hlt'] at this
   refine no i (by omega) _ (List.getElem?_eq_getElem hlt') ?_
   simp only [Option.map_some,Option.some.injEq] at this
   rw [<-this,e]]
 ·have e1:(zy s1 qs).get t=(zy s1 (qs.take c)).get t:=by
   conv=>lhs;rw [<-List.take_append_drop c qs,vW]
   refine qt _ _ fun x hx e=>ht ?_
   obtain⟨i,hi⟩:=List.getElem?_of_mem hx
   rw [List.getElem?_drop] at hi
   have hiq:=(List.getElem?_eq_some_iff.1 hi).1
   refine⟨c+i,by omega,hiq,?_⟩
   rw [<-hdq _ hiq,hi]
   simp [e]
  have e2:(zy s0 ps2).get t=(zy s0 (ps2.take (m+c))).get t:=by
   conv=>lhs;rw [<-List.take_append_drop (m+c) ps2,vW]
   refine qt _ _ fun x hx e=>ht ?_
   obtain⟨i,hi⟩:=List.getElem?_of_mem hx
   rw [List.getElem?_drop] at hi
   have hiq:=(List.getElem?_eq_some_iff.1 hi).1
   refine⟨c+i,by omega,by omega,?_⟩
   rw [show m+(c+i)=m+c+i by omega,hi]
   simp [e]
  rw [<-e1,<-e2]
  exact hE.1 t
theorem zag {a:PO}:∀(qs:List (Option Nat × PV)) (s:PS),(∀ x ∈ qs,∀ d,x.1=some d->jY d a=true)->(zy s qs).ev a=s.ev a:=fun qs s h=>by
 cases a with
 | t i=>
   refine qt qs s fun x hx e=>?_
   have:=h x hx i e
   simp [jY] at this
 | c p=>rfl
 | f p=>rfl
theorem JB {fr:Prop} {l:List Oper} {is t':List PI} {m r n0:Nat} {xa xb:PO} {H:List PI} {Q:PX->PS->Prop} (hc:zI P nt l.toArray l=some is) (hdr:is.drop (m+r)=⟨none,none,.st xa xb n0⟩::t')
 (hK:zck l.toArray m r nt=true) (hT:yK l.toArray (m+r)=true) (hfl:((is.drop m).take r).all (zcU xa xb)=true)
 (hq:zf P (is.take (m+r)) (qZ P fr H s (⟨none,none,.st xa xb n0⟩::t') (Q .n)) s) (h:RA B nt g s a w) :
 wpAny P .any l.toArray (QL B nt Q) l.toArray.size (Array.replicate l.toArray.size false) a w.drew:=by
 obtain⟨hr0,hsz,hR,hlead,hchain,hback⟩:=KI hK
 simp only [List.size_toArray] at hsz
 obtain⟨hc1,hc2⟩:=qz (m+r) l is hc (by omega)
 rw [List.drop_eq_getElem_cons (show m+r<l.length by omega),hdr] at hc2
 obtain⟨os,hos⟩:∃ o,l[m+r]=o:=⟨_,rfl⟩
 rw [hos] at hc2
 have one:∀ {o:Oper} {l':List Oper} {d:Option Nat} {k:PK} {t:List PI},zI P nt l.toArray (o::l')=some (⟨d,none,k⟩::t)->vd nt o.dst=true/\o.guard=none/\o.dst=d/\XR P o=some k/\zI P nt l.toArray l'=some t:=fun {o l' d k t} hc2=>by
  simp only [zI,Option.bind_eq_some_iff] at hc2
  obtain⟨k',hk,r,hr,hc2⟩:=hc2
  split at hc2
  ·rename_i hdk
   split at hc2
   ·rename_i hg0
    simp only [Option.some.injEq,List.cons.injEq,PI.mk.injEq] at hc2
    exact⟨hdk,hg0,hc2.1.1,by rw [<-hc2.1.2.2];exact hk,by rw [<-hc2.2];exact hr⟩
   ·simp only [Option.bind_eq_some_iff] at hc2
    obtain⟨t,_,hc2⟩:=hc2
    split at hc2
    ·simp only [Option.some.injEq,List.cons.injEq,PI.mk.injEq] at hc2
     cases hc2.1.2.1
    ·cases hc2
  ·cases hc2
 obtain⟨hdks,hgs,hdsts,hks,hr⟩:=one hc2
 obtain⟨hch,hcc⟩:=qz m (l.take (m+r)) (is.take (m+r)) hc1 (by simp;omega)
 obtain⟨ih,hih⟩:∃ x,(is.take (m+r)).take m=x:=⟨_,rfl⟩
 obtain⟨ic,hic⟩:∃ x,(is.take (m+r)).drop m=x:=⟨_,rfl⟩
 obtain⟨lh,hlh⟩:∃ x,(l.take (m+r)).take m=x:=⟨_,rfl⟩
 obtain⟨lc,hlc⟩:∃ x,(l.take (m+r)).drop m=x:=⟨_,rfl⟩
 rw [<-List.take_append_drop m (is.take (m+r)),hih,hic,xS] at hq
 rw [hlh,hih] at hch
 rw [hlc,hic] at hcc
 have hlhl:lh.length=m:=by rw [<-hlh];simp;omega
 have hlcl:lc.length=r:=by rw [<-hlc];simp;omega
 have hlhg:∀ j,j<m->lh[j]? = l[j]?:=fun j hj=>by
  rw [<-hlh,List.getElem?_take,if_pos hj,List.getElem?_take,if_pos (by omega)]
 have hlcg:∀ j,j<r->lc[j]? = l[m+j]?:=fun j hj=>by
  rw [<-hlc,List.getElem?_drop,List.getElem?_take,if_pos (by omega)]
 have hflo:∀ i ∈ ic,zcU xa xb i=true:=by
  have e:ic=(is.drop m).take r:=by rw [<-hic,List.drop_take];congr 1;omega
  rw [e];exact List.all_eq_true.1 hfl
 have hgk:∀ i ∈ ic,i.g=none/\QI i.k=true:=fun i hi=>by
  have:=hflo i hi
  simp only [zcU,Bool.and_eq_true,Option.isNone_iff_eq_none] at this
  exact this.1
 have hw0:w.drew.heap.size=w.heap.size:=rfl
 have hlow:∀ S:GW,CG w.drew S->∀ b,b<w.heap.size->b ∉ S.1:=fun S hS b hb hm=>by have:=(hS.2 b hm).1;omega
 have hcell:∀ w',Keep qe w.drew w'->∀ b o x,g.D b o->w.cell? ⟨b,o,none⟩=some x->w'.cell? ⟨b,o,none⟩=some x:=fun w' hk b o x _ hx=>qa (qu hk) (show b<w.drew.heap.size from qF hx) hx
 have h0:∀ S:GW,CG w.drew S->∀ t,Rel (fun b o=>(g.D b o\/w.heap.size<=b)/\b ∉ S.1) g.ρ s.b.length S.2 (a.tmps.getD t undef) (s.get t):=fun S hS t=>(h.1.slots t).mono (fun b o hD=>⟨.inl hD,hlow S hS b (h.1.dlt b o hD)⟩) (hcell S.2 hS.1) (Nat.le_refl _) fun _ _=>rfl
 have hbox:∀ S:GW,CG w.drew S->∀(i:Nat) cs,s.b[i]? = some cs->zaA ⟨fun b o=>(g.D b o\/w.heap.size<=b)/\b ∉ S.1,g.ρ⟩ s.b.length S.2 i cs:=fun S hS i cs hi=>by
  obtain⟨_,vs,e,hv,hz,hb⟩:=h.1.boxes i cs hi
  have hlt:g.ρ i<w.drew.heap.size:=h.1.ρlt (List.getElem?_eq_some_iff.1 hi).1
  exact⟨vs,e,(hS.1.block _ hlt fun h=>h).trans hv,hz,fun j p hp=>⟨(hb j p hp).1.mono (fun b o hD=>⟨.inl hD,hlow S hS b (h.1.dlt b o hD)⟩) (hcell S.2 hS.1) (Nat.le_refl _) fun _ _=>rfl,(hb j p hp).2⟩⟩
 have hgl:∀ S:GW,CG w.drew S->GL (fun b o=>(g.D b o\/w.heap.size<=b)/\b ∉ S.1) S.2:=fun S hS=>h.1.gl.mono (fun b o hD=>⟨.inl hD,hlow S hS b (h.1.dlt b o hD)⟩) (hcell S.2 hS.1)
 obtain⟨stp,hstp⟩:∃ stp:Nat->(Act->GW->Prop)->Act->GW->Prop,stp=fun i K a S=>wpOp P l.toArray (QL B nt Q) i (fun a' w'=>∃ F',K a' (F',w')) a S.2:=⟨_,rfl⟩
 obtain⟨T,hTT⟩:∃ T:Nat->Act->GW->Prop,T=fun k a S=>wpList P l.toArray (QL B nt Q) (l.drop k) a S.2:=⟨_,rfl⟩
 obtain⟨CT,hCT⟩:∃ CT:Nat->Act->GW->Prop,CT=fun c a S=>zgD P (QL B nt Q) (fun a w=>wpList P l.toArray (QL B nt Q) (l.drop (m+r+1)) a w) (lc.drop c) a S.2:=⟨_,rfl⟩
 obtain⟨E,hEE⟩:∃ E:List (Option Tmp × Pl.VP GW)->Prop,E=fun env=>(∀ S,CG w.drew S->Pl.Kpo.kp (([],w.drew):GW) S->Pl.finG (T (m+r)) S env a)/\∀ c,c<r->∀ S,CG w.drew S->Pl.Kpo.kp (([],w.drew):GW) S->Pl.finG (fun a S=>stp (m+r) (CT c) a S) S (env.take (m+c)) a:=⟨_,rfl⟩
 have main:Pl.walkE (J1 P (QL B nt Q)) a (([],w.drew):GW) (CG w.drew) E (lh++lc) []:=by
  have:=yp (P:=P) (D:=fun b o=>g.D b o\/w.heap.size<=b) (ρ:=g.ρ) (Q:=QL B nt Q) (E:=E) (s0:=s) (a0:=a) (w0:=w.drew) (nh:=m) (nh':=m+r) (by omega) hR (l2:=lc) h0 hbox hgl (fun b o hb=>.inr hb)
   (K:=zf P ic (qZ P fr H s (⟨none,none,.st xa xb n0⟩::t') (Q .n)))
   (fun ps hdd hln hds hown hlt ⟨s1,hE1,hK1⟩=>by
     obtain⟨qs,hqs⟩:=K1 ic s1 hgk hK1
     have hh:=Yv ic s1 qs hgk hqs
     obtain⟨hql,hKt,hqd⟩:=hqs.len
     have hicl:ic.length=r:=by
      have:=hcc
      have key:∀(lo:List Oper) (li:List PI),zI P nt l.toArray lo=some li->li.length=lo.length:=by
       intro lo
       induction lo with
       | nil=>intro li h;cases h;rfl
       | cons o lo ih=>
         intro li h
         simp only [zI,Option.bind_eq_some_iff] at h
         obtain⟨k',hk,r,hr,h⟩:=h
         have:=ih r hr
         split at h
         ·split at h
          ·cases h;simp [this]
          ·simp only [Option.bind_eq_some_iff] at h
           obtain⟨t,_,h⟩:=h
           split at h
           ·cases h;simp [this]
           ·cases h
         ·cases h
      rw [key _ _ hcc,hlcl]
     have hKt':PK.e P (.st xa xb n0) none (zy s1 qs) (ze P t' (Q .n)):=hKt
     have hnot:∀ x ∈ qs,∀ d,x.1=some d->jY d xa=true/\jY d xb=true:=fun x hx d hd=>by
      have:x.1 ∈ qs.map (·.1):=List.mem_map.2 ⟨x,hx,rfl⟩
      rw [hqd] at this
      obtain⟨i,hi,e⟩:=List.mem_map.1 this
      have hf:=hflo i hi
      simp only [zcU,e,hd,Bool.and_eq_true] at hf
      exact hf.2
     have:=yp (P:=P) (D:=fun b o=>g.D b o\/w.heap.size<=b) (ρ:=g.ρ) (Q:=QL B nt Q) (E:=E) (s0:=s) (a0:=a) (w0:=w.drew) (nh:=m+r) (nh':=m+r) (by omega) hR (l2:=[]) h0 hbox hgl (fun b o hb=>.inr hb)
      (K:=fun s'=>s'=zy s1 qs)
      (fun ps2 hdd2 hln2 hds2 hown2 hlt2 ⟨s',hE2,hs'⟩=>by
        rw [hs'] at hE2
        have key:∀ c,EqS (zy s1 (qs.take c)) (zy s (ps2.take (m+c))):=fun c=>zfZ hE1 hln (by rw [hln2,hql,hicl]) hdd2 (fun j hj=>by
         have j1:j<ps.length:=by omega
         have j2:j<ps2.length:=by omega
         rw [List.getElem?_eq_getElem j1,List.getElem?_eq_getElem j2]
         simp only [Option.map_some,Option.some.injEq]
         rw [hds j _ (List.getElem?_eq_getElem j1),hds2 j _ (List.getElem?_eq_getElem j2)])
         (fun j hj=>by
           have hj':j<r:=by rw [hql,hicl] at hj;exact hj
           have j2:m+j<ps2.length:=by omega
           rw [List.getElem?_eq_getElem j2,Option.map_some,hds2 (m+j) _ (List.getElem?_eq_getElem j2)]
           have e1:qs[j]?.map (·.1)=(qs.map (·.1))[j]?:=by rw [List.getElem?_map]
           rw [e1,hqd]
           have e2:(ic.map (·.d))[j]? = lc[j]?.map Oper.dst:=by
            have key2:∀(lo:List Oper) (li:List PI),zI P nt l.toArray lo=some li->li.map (·.d)=lo.map Oper.dst:=by
             intro lo
             induction lo with
             | nil=>intro li h;cases h;rfl
             | cons o lo ih=>
               intro li h
               simp only [zI,Option.bind_eq_some_iff] at h
               obtain⟨k',hk,r,hr,h⟩:=h
               have:=ih r hr
               split at h
               ·split at h
                ·cases h;simp [this]
                ·simp only [Option.bind_eq_some_iff] at h
                 obtain⟨t,_,h⟩:=h
                 split at h
                 ·cases h;simp [this]
                 ·cases h
               ·cases h
            rw [key2 _ _ hcc,List.getElem?_map]
           rw [e2,hlcg j hj']
           have j3:m+j<l.length:=by omega
           unfold zJ
           simp [List.getElem?_eq_getElem j3]) hE2
        have atEnd:∀ S:GW,CG w.drew S->∀(c:Nat) (F:Act->GW->Prop),(∀ a2,RA B nt ⟨fun b o=>((g.D b o\/w.heap.size<=b)/\b ∉ S.1)/\b<S.2.heap.size,g.ρ⟩ (zy s1 (qs.take c)) a2 S.2->F a2 S)->Pl.finG F S (qw (fun b o=>g.D b o\/w.heap.size<=b) g.ρ s.b.length (ps2.take (m+c))) a:=fun S hS c F hF=>by
         have hb:=qu hS.1
         have hg:R B ⟨fun b o=>((g.D b o\/w.heap.size<=b)/\b ∉ S.1)/\b<S.2.heap.size,g.ρ⟩ s (zB a) S.2:=h.1.drew.grow hb _ (fun b o hD=>⟨⟨.inl hD,hlow S hS b (h.1.dlt b o hD)⟩,Nat.lt_of_lt_of_le (h.1.dlt b o hD) hb.size⟩) (fun b o hD=>hD.1.1) (fun b o hD=>hD.2)
         exact yL (ps2.take (m+c)) s a (hdd2.sublist (List.take_sublist _ _)) (fun x hx=>hown2 x (List.mem_of_mem_take hx)) (fun x hx=>hlt2 x (List.mem_of_mem_take hx)) (fun b o hD=>hD) ⟨hg,h.2⟩ rfl fun a' ha' _=>hF a' (ha'.eqS (key c))
        have hqr:qs.take r=qs:=List.take_of_length_le (by omega)
        have hpr:ps2.take (m+r)=ps2:=List.take_of_length_le (by omega)
        show E (qw (fun b o=>g.D b o\/w.heap.size<=b) g.ρ s.b.length ps2)
        rw [hEE]
        refine⟨fun S hS _=>?_,fun c hc S hS _=>?_⟩
        ·have:=atEnd S hS r (T (m+r)) fun a2 hA=>by
          rw [hqr] at hA
          rw [hTT]
          show wpList P l.toArray (QL B nt Q) (l.drop (m+r)) a2 S.2
          rw [List.drop_eq_getElem_cons (show m+r<l.length by omega),hos]
          exact list_sound _ _ (zy s1 qs) _ _ _ hc2 hKt' hA
         rw [hpr] at this
         exact this
        ·have etake:(qw (fun b o=>g.D b o\/w.heap.size<=b) g.ρ s.b.length ps2).take (m+c)=qw (fun b o=>g.D b o\/w.heap.size<=b) g.ρ s.b.length (ps2.take (m+c)):=by simp [qw]
         rw [etake]
         refine atEnd S hS c _ fun a2 hA=>?_
         have hsplit:zy s1 qs=zy (zy s1 (qs.take c)) (qs.drop c):=by rw [<-vW,List.take_append_drop]
         have hbb:(zy s1 qs).b=(zy s1 (qs.take c)).b:=by rw [qp,qp]
         have hst:=zax (s2:=zy s1 (qs.take c)) (s3:=zy s1 qs) (by rw [hsplit];exact zag _ _ fun x hx d hd=>(hnot x (List.mem_of_mem_drop hx) d hd).1) (by rw [hsplit];exact zag _ _ fun x hx d hd=>(hnot x (List.mem_of_mem_drop hx) d hd).2) hbb hKt'
         have hE1:=ZO (o:=os) (B:=B) (a:=a2) (w:=S.2) (s:=zy s1 (qs.take c)) hks (by rw [hdsts];intro t ht;cases ht) hA.1 (by rw [hdsts];exact hst)
         show stp (m+r) _ a2 S
         rw [hstp]
         simp only [wpOp,List.getElem?_toArray,List.getElem?_eq_getElem (show m+r<l.length by omega),hos]
         rw [if_pos (by simp [Region.wanted,hgs])]
         refine .inl (hE1 _ _ ?_)
         rintro s4 g4 u4 w4 ⟨e4,hk4⟩ hR4
         refine⟨[],?_⟩
         rw [hdsts] at hR4 ⊢
         have hsz4:(a2.put none u4).tmps.size=nt:=by rw [(zD _ _ _).1];exact hA.2.2
         have hdf4:(a2.put none u4).defers=B.df:=by rw [(zD _ _ _).2];exact hA.2.1
         have hget4:∀ t,s4.get t=(zy s1 (qs.take c)).get t:=fun t=>by
          show yr s4.t t=yr (zy s1 (qs.take c)).t t
          rw [e4]
         obtain⟨_,hcd⟩:=qz c lc ic hcc (by omega)
         rw [hCT]
         refine zd4 _ _ _ _ s4 g4 _ w4 (hqs.drop c) hcd (fun i hi=>hgk i (List.mem_of_mem_drop hi)) hget4 ⟨hR4,hdf4,hsz4⟩ fun g5 a5 w5 h5=>?_
         refine list_sound _ _ ⟨(zy s1 qs).t,s4.b⟩ _ _ _ hr hk4 (h5.eqS ⟨fun t=>?_,by rw [qp]⟩)
         have e5:=vX (qs.drop c) hget4 t
         rw [<-hsplit] at e5
         exact e5.symm)
      lc ic ps s1 hE1 hcc (by rw [hln,hlcl]) (fun j hj=>by
       rw [hln,List.getElem?_toArray]
       exact(hlcg j (by omega)).symm) hds hdd hown hh
     simpa using this)
   lh ih [] s (EqS.refl _) hch (by simp [hlhl]) (fun j hj=>by
    simp only [List.length_nil,Nat.zero_add,List.getElem?_toArray]
    exact(hlhg j (by omega)).symm) (fun j x h=>by simp at h) List.Pairwise.nil (by simp) hq
  simpa [qw] using this
 have etk:l.take (m+r)=lh++lc:=by rw [<-hlh,<-hlc,List.take_append_drop]
 rw [<-etk] at main
 subst hstp
 subst hTT
 subst hEE
 refine Pl.greadyC (Ω:=GW) (ops:=l.toArray) (nh:=m) (r:=r) (a0:=a) (w0:=([],w.drew)) (C:=CG w.drew) rfl (J1 P (QL B nt Q)) (fun i K a S=>wpOp P l.toArray (QL B nt Q) i (fun a' w'=>∃ F',K a' (F',w')) a S.2) (fun n listed a S=>wpAny P .any l.toArray (QL B nt Q) n listed a S.2) (fun a S=>QL B nt Q .normal a S.2) (fun k a S=>wpList P l.toArray (QL B nt Q) (l.drop k) a S.2)
  ?_ (fun i K K' a w hk hs=>wpOp_mono (fun a w ⟨F,h⟩=>⟨F,hk _ _ h⟩) hs) (fun listed a w h1 h2=>⟨h1,h2⟩) (fun fuel listed a w h1 h2=>⟨h1,fun i hi=>wpOp_mono (fun a w ⟨F,h⟩=>h) (h2 i hi)⟩) ?_ ?_ hr0 hR hlead hchain (by simpa using hback) hT (by simpa using hsz) CT ?_ ?_ h.2.2 ⟨Keep.refl _ _,fun b hb=>by cases hb⟩ main
 ·intro i o K a S ho hs
  unfold wpOp
  simp only [ho]
  split
  ·rename_i hw;rw [if_pos hw] at hs;exact .inl hs
  ·rename_i hw;rw [if_neg hw] at hs;exact⟨S.1,hs⟩
 ·intro k a S hk ht
  have hk':k<l.length:=by simpa using hk
  simp only [List.drop_eq_getElem_cons hk',wpList] at ht
  unfold wpOp
  simp only [List.getElem?_toArray,List.getElem?_eq_getElem hk']
  split
  ·rename_i hw
   rw [if_pos hw] at ht
   exact ht.imp (Oper.wp_mono fun a w h=>⟨[],h⟩) id
  ·rename_i hw
   rw [if_neg hw] at ht
   exact⟨[],ht⟩
 ·intro a w ht
  simpa [wpList] using ht
 ·intro c a S hc ht
  rw [hCT] at ht ⊢
  have hcl:c<lc.length:=by omega
  simp only [List.drop_eq_getElem_cons hcl,zgD] at ht
  have hlm:m+c<l.length:=by omega
  have e1:lc[c]=l[m+c]:=by
   have:=hlcg c hc
   rw [List.getElem?_eq_getElem hcl,List.getElem?_eq_getElem hlm] at this
   exact Option.some.inj this
  have hgc:(lc[c]).guard=none:=by
   obtain⟨_,hcd⟩:=qz c lc ic hcc (by omega)
   rw [List.drop_eq_getElem_cons hcl] at hcd
   have hcd':=hcd
   simp only [zI,Option.bind_eq_some_iff] at hcd
   obtain⟨k',hk,r',hr',h3⟩:=hcd
   split at h3
   ·split at h3
    ·assumption
    ·simp only [Option.bind_eq_some_iff] at h3
     obtain⟨t,_,h3⟩:=h3
     split at h3
     ·simp only [Option.some.injEq] at h3
      have hm:∀ i,i ∈ ic.drop c->i.g=none:=fun i hi=>(hgk i (List.mem_of_mem_drop hi)).1
      rw [<-h3] at hm
      have:=hm _ List.mem_cons_self
      cases this
     ·cases h3
   ·cases h3
  unfold wpOp
  simp only [List.getElem?_toArray,List.getElem?_eq_getElem hlm]
  rw [<-e1,if_pos (by simp [Region.wanted,hgc])]
  exact .inl (Oper.wp_mono (fun a w h=>⟨[],h⟩) ht)
 ·intro a S ht
  rw [hCT] at ht
  rw [show lc.drop r=[] from List.drop_of_length_le (by omega)] at ht
  exact ht
theorem YX {fr:Prop} (hfr:fr->∀ k,¬ B.Sb k) {l:List Oper} {pc:PC} {Q:PX->PS->Prop} (hc:Jv P nt l=some pc) (hq:pW P nt fr pc Q s) (h:RA B nt g s a w):wpAny P .any l.toArray (QL B nt Q) l.toArray.size (Array.replicate l.toArray.size false) a w.drew:=by
 unfold Jv at hc
 simp only [Option.bind_eq_some_iff] at hc
 obtain⟨is,hl,hc⟩:=hc
 split at hc
 ·rename_i hB
  cases hc
  exact zcI (s:=s.clean) hfr (l:=l) (fun t=>by rw [kT];exact PV.clean_isN _) hl hB hq ⟨h.1.clean,h.2⟩
 ·cases hc
theorem kg {fr:Prop} (hfr:fr->∀ k,¬ B.Sb k) {l:List Oper} {pc:PC} {Q:PX->PS->Prop} (hc:YW P nt l=some pc) (hq:pW P nt fr pc Q s) (h:RA B nt g s a w):wpAny P .any l.toArray (QL B nt Q) l.toArray.size (Array.replicate l.toArray.size false) a w.drew:=by
 unfold YW at hc
 split at hc
 ·rename_i x hx
  cases hc
  exact YX hfr hx hq h
 ·unfold zct at hc
  simp only [Option.bind_eq_some_iff] at hc
  obtain⟨is,hl,hc⟩:=hc
  split at hc
  ·rename_i d zs t hdr
   split at hc
   ·rename_i hB
    cases hc
    exact zaY (fr:=fr) (s:=s.clean) hl hdr hB hq ⟨h.1.clean,h.2⟩
   ·cases hc
  ·cases hc
theorem YY {fr:Prop} {l:List Oper} {m:Nat} {pc:PC} {Q:PX->PS->Prop} (hc:Jw P nt m l=some pc) (hq:pW P nt fr pc Q s) (h:RA B nt g s a w):wpAny P .any l.toArray (QL B nt Q) l.toArray.size (Array.replicate l.toArray.size false) a w.drew:=by
 unfold Jw at hc
 simp only [Option.bind_eq_some_iff] at hc
 obtain⟨is,hl,hc⟩:=hc
 split at hc
 ·rename_i d zs d' x i a' b' n t hdr
  split at hc
  ·rename_i hB
   cases hc
   simp only [Bool.and_eq_true,Bool.not_eq_true',beq_eq_false_iff_ne] at hB
   obtain⟨⟨⟨⟨⟨⟨k1,k2⟩,k3⟩,k4⟩,k5⟩,k6⟩,k7⟩:=hB
   refine JA (fr:=fr) (s:=s.clean) hl hdr k1 k2 k3 k4 k5 k6 (fun o ho=>?_) hq ⟨h.1.clean,h.2⟩
   unfold zkX at k7
   rw [ho] at k7
   simpa using k7
  ·cases hc
 ·cases hc
theorem Y0 {fr:Prop} {l:List Oper} {pc:PC} {Q:PX->PS->Prop} {j:Nat} (hx:YZ P nt l j=some pc) (hq:pW P nt fr pc Q s) (h:RA B nt g s a w):wpAny P .any l.toArray (QL B nt Q) l.toArray.size (Array.replicate l.toArray.size false) a w.drew:=by
 unfold YZ at hx
 by_cases hp:(zgQ l j && q9 l.length (zfU l j))=true
 ·rw [if_pos hp] at hx
  rw [Bool.and_eq_true] at hp
  exact xd hp.2 (YY (fr:=fr) hx hq h)
 ·rw [if_neg hp] at hx
  cases hx
theorem Zm {fr:Prop} {l:List Oper} {pc:PC} {Q:PX->PS->Prop} (hq:pW P nt fr pc Q s) (h:RA B nt g s a w):∀ js:List Nat,KM P nt l js=some pc->wpAny P .any l.toArray (QL B nt Q) l.toArray.size (Array.replicate l.toArray.size false) a w.drew
 | [],hc=>by cases hc
 | j::r,hc=>by
   simp only [KM] at hc
   cases hj:YZ P nt l j with
   | none=>rw [hj] at hc;exact Zm hq h r hc
   | some x=>
     rw [hj] at hc
     simp only [Option.some.injEq] at hc
     subst hc
     exact Y0 (fr:=fr) hj hq h
theorem XT {fr:Prop} {l:List Oper} {pc:PC} {Q:PX->PS->Prop} (hx:zcv P nt l=some pc) (hq:pW P nt fr pc Q s) (h:RA B nt g s a w):wpAny P .any l.toArray (QL B nt Q) l.toArray.size (Array.replicate l.toArray.size false) a w.drew:=by
 unfold zcv at hx
 by_cases hp:q9 l.length (zis l)=true
 ·rw [if_pos hp] at hx
  refine xd hp ?_
  unfold zcw at hx
  simp only [Option.bind_eq_some_iff] at hx
  obtain⟨is,hl,hc⟩:=hx
  split at hc
  ·rename_i a' b' n t hdr
   split at hc
   ·rename_i hB
    cases hc
    simp only [Bool.and_eq_true] at hB
    obtain⟨⟨k1,k2⟩,k3⟩:=hB
    exact JB (fr:=fr) (s:=s.clean) hl hdr k1 k2 k3 hq ⟨h.1.clean,h.2⟩
   ·cases hc
  ·cases hc
 ·rw [if_neg hp] at hx
  cases hx
theorem XS {fr:Prop} (hfr:fr->∀ k,¬ B.Sb k) {l:List Oper} {pc:PC} {Q:PX->PS->Prop} (hc:zcu P nt l=some pc) (hq:pW P nt fr pc Q s) (h:RA B nt g s a w):wpAny P .any l.toArray (QL B nt Q) l.toArray.size (Array.replicate l.toArray.size false) a w.drew:=by
 unfold zcu at hc
 split at hc
 ·rename_i x hx
  cases hc
  exact kg hfr hx hq h
 ·split at hc
  ·rename_i x hx
   cases hc
   split at hx
   ·rename_i hp
    exact xd hp (kg hfr hx hq h)
   ·cases hx
  ·split at hc
   ·rename_i x hx
    cases hc
    exact XT (fr:=fr) hx hq h
   ·exact Zm (fr:=fr) hq h _ hc
theorem ZF {K:PS->Prop} {Q:PX->PS->Prop} {e:Exit} {next:Act->World->Prop} (hn:∀ s g a w,RA B nt g s a w->K s->next a w) (h:QL B nt (kL K Q) e a w):Exit.then next (QL B nt Q) e a w:=by
 cases e<;>first | exact h.elim | exact h | (obtain⟨s,g,h1,h2⟩:=h;exact hn s g a w h1 h2)
theorem YS {id:Nat} {Q:PX->PS->Prop} {e:Exit} (h:QL B nt (jM id Q) e a w):Exit.inBlock id (QL B nt Q) e a w:=by
 cases e<;>try exact h
 rename_i id'
 obtain⟨s,g,h1,h2⟩:=h
 simp only [jM] at h2
 simp only [Exit.inBlock]
 split
 ·rename_i e;rw [if_pos e] at h2;exact⟨s,g,h1,h2⟩
 ·rename_i e;rw [if_neg e] at h2;exact⟨s,g,h1,h2⟩
theorem zdg {p:Nat->Prop} (h:∃ n,p n):∃ n,p n/\∀ m,p m->n<=m:=by
 obtain⟨n,hn⟩:=h
 induction n using Nat.strongRecOn with
 | _ n ih=>
   by_cases hm:∃ m,m<n/\p m
   ·obtain⟨m,h1,h2⟩:=hm
    exact ih m h1 h2
   ·exact⟨n,hn,fun m hpm=>by
     rcases Nat.lt_or_ge m n with h | h
     ·exact absurd ⟨m,h,hpm⟩ hm
     ·exact h⟩
open Classical in
theorem JT {c:Code} {body:(PX->PS->Prop)->PS->Prop} {Q:PX->PS->Prop} (hb:∀ Q s g a w,body Q s->RA B nt g s a w->c.wp P (QL B nt Q) a w) (hq:pLoop body Q s) (h:RA B nt g s a w):(Code.loop c).wp P (QL B nt Q) a w:=by
 obtain⟨ι,J,S,m,i0,hj0,hs0,hround⟩:=hq
 have hex:∀ a w,(∃ n,∃ i g,J i/\m i=n/\RA B nt g (S i) a w)->∃ n,(∃ i g,J i/\m i=n/\RA B nt g (S i) a w)/\∀ k,(∃ i g,J i/\m i=k/\RA B nt g (S i) a w)->n<=k:=fun a w h=>zdg h
 obtain⟨μ,hμ⟩:∃ μ:Act->World->Nat,∀ a w,(∃ n,∃ i g,J i/\m i=n/\RA B nt g (S i) a w)->(∃ i g,J i/\m i=μ a w/\RA B nt g (S i) a w)/\∀ k,(∃ i g,J i/\m i=k/\RA B nt g (S i) a w)->μ a w<=k:=
  ⟨fun a w=>if h:∃ n,∃ i g,J i/\m i=n/\RA B nt g (S i) a w then Classical.choose (hex a w h) else 0,fun a w h=>by
   simp only [dif_pos h]
   exact Classical.choose_spec (hex a w h)⟩
 refine wp_loop (fun a w=>∃ n,∃ i g,J i/\m i=n/\RA B nt g (S i) a w) μ ⟨_,i0,g,hj0,rfl,h.weak hs0⟩ ?_
 intro a w hI
 obtain⟨⟨i,g',hj,hm,hR⟩,_⟩:=hμ a w hI
 refine wp_mono (hb _ _ g' a w (hround i hj) hR) fun e a' w' he=>?_
 refine ZF (fun s g a w h1 h2=>?_) he
 obtain⟨j,hj',hlt,hs⟩:=h2
 have hI':∃ n,∃ i g,J i/\m i=n/\RA B nt g (S i) a w:=⟨_,j,g,hj',rfl,h1.weak hs⟩
 have:=(hμ a w hI').2 (m j) ⟨j,g,hj',rfl,h1.weak hs⟩
 refine⟨hI',?_⟩
 omega
theorem Ql {fr:Prop} {ms:List Nat} (hfr:fr->∀ k,¬ B.Sb k):∀(c:Code) (pc:PC),qx P nt ms c=some pc->∀(Q:PX->PS->Prop) (s:PS) (g:Gh) (a:Act) (w:World),pW P nt fr pc Q s->RA B nt g s a w->c.wp P (QL B nt Q) a w:=by
 intro c
 induction c with
 | skip=>intro pc hc Q s g a w hq h;cases hc;exact wp_skip ⟨s,g,h,hq⟩
 | label l=>intro pc hc Q s g a w hq h;cases hc;exact wp_label ⟨s,g,h,hq⟩
 | exit id=>intro pc hc Q s g a w hq h;cases hc;exact wp_exit ⟨s,g,h,hq⟩
 | ret=>intro pc hc Q s g a w hq h;cases hc;exact wp_ret ⟨s,g,h,hq⟩
 | region id ops draw=>
   intro pc hc Q s g a w hq h
   simp only [qx] at hc
   split at hc
   ·cases hc;exact hq B g a w h
   ·split at hc
    ·simp only [Option.map_eq_some_iff] at hc
     obtain⟨l,hl,rfl⟩:=hc
     exact wp_region_list (list_sound _ _ _ _ _ _ hl hq h)
    ·split at hc
     ·rename_i hm
      refine wp_region_any hm ?_
      have:=XS (fr:=fr) hfr hc hq h
      simpa using this
     ·cases hc
 | seq x y ihx ihy=>
   intro pc hc Q s g a w hq h
   simp only [qx,Option.bind_eq_some_iff,Option.map_eq_some_iff] at hc
   obtain⟨px,hx,py,hy,rfl⟩:=hc
   refine wp_seq (wp_mono (ihx px hx _ s g a w hq h) fun e a' w' he=>ZF (fun s g a w h1 h2=>ihy py hy Q s g a w h2 h1) he)
 | cond c x y ihx ihy=>
   intro pc hc Q s g a w hq h
   simp only [qx,Option.bind_eq_some_iff,Option.map_eq_some_iff] at hc
   obtain⟨c',hcc,px,hx,py,hy,rfl⟩:=hc
   obtain⟨b,e1,_,h1,h2⟩:=xE hq (Xk hcc fun t _=>h.1.slots t)
   exact wp_cond_split e1 (fun e=>ihx px hx Q s g a w (h1 e) h) (fun e=>ihy py hy Q s g a w (h2 e) h)
 | block id x ih=>
   intro pc hc Q s g a w hq h
   simp only [qx,Option.map_eq_some_iff] at hc
   obtain⟨px,hx,rfl⟩:=hc
   exact wp_block (wp_mono (ih px hx _ s g a w hq h) fun e a' w' he=>YS he)
 | loop x ih=>
   intro pc hc Q s g a w hq h
   simp only [qx,Option.map_eq_some_iff] at hc
   obtain⟨px,hx,rfl⟩:=hc
   exact JT (fun Q s g a w hq h=>ih px hx Q s g a w hq h) hq h
 | rangeFunc f ps x y _ _=>intro pc hc;cases hc
 | scope x ih=>
   intro pc hc Q s g a w hq h
   simp only [qx] at hc
   exact wp_scope_straight (wp_mono (ih pc hc Q s g a w hq h) fun e a' w' he=>by cases e<;>first | exact he | exact he.elim)
 | goto l=>intro pc hc;cases hc
 | refuse y=>intro pc hc;cases hc
end Go.Proofs.YtopfkkogooocgaaGreat
