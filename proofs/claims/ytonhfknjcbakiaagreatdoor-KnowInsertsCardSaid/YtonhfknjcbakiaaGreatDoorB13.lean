import Derived.Scope
import Derived.Test.YtonhfknjcbakiaaGreatDoorB10
import Derived.Test.YtonhfknjcbakiaaGreatDoorB12
set_option maxHeartbeats 16000000
set_option linter.unusedVariables false
set_option linter.unusedSimpArgs false
namespace Go.Proofs.YtonhfknjcbakiaaGreatDoor
open Go.RowKit
inductive PC where
 | sk
 | rg (l:List PI)
 | dr (h t:List PI)
 | sq (a b:PC)
 | cd (c:PO) (a b:PC)
 | bk (id:Nat) (a:PC)
 | lp (wr:List Nat) (a:PC)
 | ex (id:Nat)
 | rt
 | man (c:Code)
inductive PX where
 | n
 | x (id:Nat)
 | r
def PI.guard (i:PI) (s:PS) (yes no:PS->Prop):Prop:=match i.g with
 | none=>yes s
 | some (t,b)=>match s.get t with
   | .v (.bool c)=>(c=b->yes (s.put (some t) (.v (.bool b))))/\(c=!b->no (s.put (some t) (.v (.bool !b))))
   | .v (.tuple vs)=>vs=#[]/\no s
   | _=>False
def ze (P:Program):List PI->(PS->Prop)->PS->Prop
 | [],K,s=>K s
 | i::l,K,s=>i.guard s (fun s=>i.k.e P i.d s (ze P l K)) (fun s=>ze P l K (s.put i.d (.v undef)))
def zf (P:Program):List PI->(PS->Prop)->PS->Prop
 | [],K,s=>K s
 | i::l,K,s=>i.guard s (fun s=>i.k.q P s fun p=>p.own=none/\zf P l K (s.put i.d p)) (fun s=>zf P l K (s.put i.d (.v undef)))
def qI (h:List PI) (s:PS):PS:=h.foldl (fun s i=>s.put i.d .und) s
def qK (a:List (List PV)):Prop:=∀ e ∈ a,∀ p ∈ e,∃ x:Value,p=.v x
def x4 (n:Nat):PV->Prop
 | .v _=>True
 | .sl es (.r m sz)=>m≠n/\qK es/\∀ e ∈ es,e.length=sz
 | _=>False
def keepOk (h:List PI) (n:Nat) (a:PS) (keep:List Nat):Prop:=
 (∀ j ∈ keep,(h.all fun i=>!(i.d == some j))=true/\x4 n (a.get j))/\keep.Pairwise fun i j=>(a.get i).own=none\/(a.get i).own≠(a.get j).own
def qZ (P:Program) (fr:Prop) (h:List PI) (u:PS) (t:List PI) (K:PS->Prop) (s:PS):Prop:=match t with
 | ⟨some d,none,.ap (.t x) y sz by_⟩::t'=>match s.get x with
   | .sl es (.n sz')=>sz'=sz/\(h.any fun i=>i.d == some x)=true/\QA (s.ev y) fun a=>qK es/\qK a/\(∀ e ∈ es,e.length=sz)/\(∀ e ∈ a,e.length=sz)/\(es.length+a.length) * by_<=140737488355328/\a≠[]/\ze P t' K ((qI h u).put (some d) (.sl (es++a) (.r d sz)))
   | .sl es (.p i)=>fr/\(h.any fun i=>i.d == some x)=true/\(match u.get i with
     | .sl es0 (.r n sz')=>sz'=sz/\QA (s.ev y) fun a=>(∀ e ∈ es,e.length=sz)/\(∀ e ∈ a,e.length=sz)/\(es.length+a.length) * by_<=140737488355328/\a≠[]/\(((qK es/\qK a)/\∃ keep,keepOk h n u keep/\ze P t' K ⟨(d,.sl (es++a) (.r n sz))::keep.map (fun j=>(j,u.get j)),[]⟩) \/
       ((h.all fun y=>!(y.d == some i))=true/\s.get i=u.get i/\es0=es/\(s.put (some x) (.sl es (.r n sz))).ev y=s.ev y/\ze P t' K (((s.put (some x) (.sl es (.r n sz))).down n).put (some d) (.sl (es++a) (.r n sz)))))
     | _=>False)
   | _=>ze P t K s
 | _=>ze P t K s
def JU (nb:Nat):PV->Bool
 | .bx i _=>decide (i<nb)
 | _=>true
def zbe (nb:Nat):PV->Bool
 | .bx i _=>decide (i<nb)
 | .fn _ fs cs=>fs.all (JU nb) && cs.all (JU nb)
 | _=>true
inductive SubP (nb:Nat):PV->PV->Prop where
 | und (p:PV):SubP nb p .und
 | eq (p:PV) (h:zbe nb p=true):SubP nb p p
 | sh (p:PV) (h:zbe nb p=true):SubP nb p p.sh
 | nil (n sz:Nat):SubP nb (.sl [] .z) (.sl [] (.r n sz))
def SubT (nb:Nat) (t:List (Nat × PV)):List (Nat × PV)->Prop
 | []=>True
 | (i,q)::r=>SubP nb (yr t i) q/\SubT nb t r
inductive SubB (nb:Nat):List (List PV)->List (List PV)->Prop where
 | nil (l:List (List PV)):SubB nb l []
 | cons (cs cs':List PV) (l l':List (List PV)) (h:cs.length=cs'.length) (hc:∀(j:Nat) p q,cs[j]? = some p->cs'[j]? = some q->SubP nb p q) (hl:SubB nb l l'):SubB nb (cs::l) (cs'::l')
def YQ (s s':PS):Prop:=SubT s'.b.length s.t s'.t/\SubB s'.b.length s.b s'.b
def kL (K:PS->Prop) (Q:PX->PS->Prop):PX->PS->Prop
 | .n,s=>K s
 | e,s=>Q e s
def jM (id:Nat) (Q:PX->PS->Prop):PX->PS->Prop
 | .x id',s=>if id'=id then Q .n s else Q (.x id') s
 | e,s=>Q e s
def RA (B:Bs) (nt:Nat) (g:Gh) (s:PS) (a:Act) (w:World):Prop:=R B g s (zB a) w/\a.defers=B.df/\a.tmps.size=nt
def QL (B:Bs) (nt:Nat) (Q:PX->PS->Prop):Exit->Act->World->Prop
 | .normal,a,w=>∃ s g,RA B nt g s a w/\Q .n s
 | .exit id,a,w=>∃ s g,RA B nt g s a w/\Q (.x id) s
 | .ret,a,w=>∃ s g,RA B nt g s a w/\Q .r s
 | _,_,_=>False
def pLoop (a:(PX->PS->Prop)->PS->Prop) (Q:PX->PS->Prop) (s:PS):Prop:=
 ∃(ι:Type) (J:ι->Prop) (S:ι->PS) (m:ι->Nat) (u:ι),J u/\YQ s (S u)/\∀ i,J i->a (kL (fun s'=>∃ j,J j/\m j<m i/\YQ s' (S j)) Q) (S i)
def pW (P:Program) (nt:Nat) (fr:Prop):PC->(PX->PS->Prop)->PS->Prop
 | .sk,Q,s=>Q .n s
 | .rg l,Q,s=>ze P l (Q .n) s
 | .dr h t,Q,s=>zf P h (qZ P fr h s.clean t (Q .n)) s.clean
 | .sq a b,Q,s=>pW P nt fr a (kL (pW P nt fr b Q) Q) s
 | .cd c a b,Q,s=>qV (s.ev c) fun t=>(t=true->pW P nt fr a Q s)/\(t=false->pW P nt fr b Q s)
 | .bk id a,Q,s=>pW P nt fr a (jM id Q) s
 | .lp _ a,Q,s=>pLoop (pW P nt fr a) Q s
 | .ex id,Q,s=>Q (.x id) s
 | .rt,Q,s=>Q .r s
 | .man c,Q,s=>∀ B g a w,RA B nt g s a w->c.wp P (QL B nt Q) a w
def vd (nt:Nat):Option Nat->Bool
 | some d=>decide (d<nt)
 | none=>true
def zI (P:Program) (nt:Nat) (a:Array Oper):List Oper->Option (List PI)
 | []=>some []
 | o::l=>(XR P o).bind fun k=>(zI P nt a l).bind fun r=>
   if vd nt o.dst=true then
    match o.guard with
    | none=>some (⟨o.dst,none,k⟩::r)
    | some (j,b)=>(zJ a j).bind fun t=>if t<nt then some (⟨o.dst,some (t,b),k⟩::r) else none
   else none
def wrK:PK->Bool
 | .st _ _ _ | .al _ | .bo _=>true
 | _=>false
def headN (l:List PI):Nat:=
 let a:=(l.takeWhile fun i=>!wrK i.k).length
 let j:=match l.reverse with
  | ⟨_,_,.ap _ _ _ _⟩::_=>l.length - 1
  | _::⟨_,_,.ap _ _ _ _⟩::_=>l.length - 2
  | _=>l.length
 min a j
def Jv (P:Program) (nt:Nat) (l:List Oper):Option PC:=(zI P nt l.toArray l).bind fun is=>
 if xk l.toArray (headN is) nt && yK l.toArray (headN is) then some (.dr (is.take (headN is)) (is.drop (headN is))) else none
def zh6 (o:Oper):Bool:=match o.op with
 | .store _ _ _ | .alloc _ | .box _ _=>true
 | _=>false
def Zr:List Oper->List Tmp->List Nat->Nat->List Nat
 | [],_,js,_=>js.reverse
 | o::l,ts,js,i=>
   if zh6 o || (zA o).any ts.contains || (match o.guard with | some (j,_)=>js.contains j | none=>false) || o.after.any (fun e=>Region.binds .any e && js.contains e.on)
   then Zr l (match o.dst with | some d=>d::ts | none=>ts) (i::js) (i+1) else Zr l ts js (i+1)
def zk4 (l:List Oper):List Nat:=let a:=Zr l [] [] 0;(List.range l.length).filter (fun i=>!a.contains i)++a
def zct (P:Program) (nt:Nat) (l:List Oper):Option PC:=(zI P nt l.toArray l).bind fun is=>
 match is.drop (headN is) with
 | ⟨some _,none,.al _⟩::_=>if xk l.toArray (headN is+1) nt && yK l.toArray (headN is+1) then some (.dr (is.take (headN is)) (is.drop (headN is))) else none
 | _=>none
def zeQ (a:Array Oper) (u nt:Nat):Bool:=
 decide (u+2<=a.size) &&
 ((List.range (u+1)).all fun i=>
   match a[i]? with
   | none=>false
   | some o=>((zA o).all (yB a (u+1) i)) &&
     (match o.guard with | none=>true | some (j,_)=>decide (j<i) && edge a i j && (zJ a j).isSome) &&
     (match o.dst with | none=>true | some d=>decide (d<nt) && (List.range (u+1)).all fun j=>decide (j=i) || !(zJ a j == some d))) &&
 ((List.range u).all fun i=>(List.range (u+2)).any fun j=>decide (i<j) && decide (j≠u) && edge a j i) &&
 (decide (u+2=a.size) || edge a (u+2) u)
def jY (d:Nat):PO->Bool
 | .t i=>!(i == d)
 | _=>true
def zkX (l:List Oper) (j d:Nat):Bool:=match l[j]? with
 | some o=>!(zA o).contains d
 | none=>false
def Jw (P:Program) (nt m:Nat) (l:List Oper):Option PC:=(zI P nt l.toArray l).bind fun is=>
 match is.drop m with
 | ⟨some d,none,.al zs⟩::⟨some d',none,.ex x i⟩::⟨none,none,.st a b n⟩::t=>
   if zeQ l.toArray (m+1) nt && yK l.toArray (m+2) && !(d == d') && jY d' a && jY d' b && jY d x && zkX l (m+1) d
   then some (.dr (is.take m++[⟨some d',none,.ex x i⟩]) (⟨some d,none,.al zs⟩::⟨none,none,.st a b n⟩::t)) else none
 | _=>none
def zkn (o:Oper):Bool:=match o.op with
 | .extract _ _=>true
 | _=>false
def zfU (l:List Oper) (j:Nat):List Nat:=let a:=Zr l [] [] 0;(List.range l.length).filter (fun i=>!a.contains i && !(i == j))++a.take 1++[j]++a.drop 1
def zgQ (l:List Oper) (j:Nat):Bool:=match l[j]? with
 | some o=>zkn o
 | none=>false
def YZ (P:Program) (nt:Nat) (l:List Oper) (j:Nat):Option PC:=if zgQ l j && q9 l.length (zfU l j) then Jw P nt ((zfU l j).length - (Zr l [] [] 0).length - 1) (z8 l (zfU l j)) else none
def KM (P:Program) (nt:Nat) (l:List Oper):List Nat->Option PC
 | []=>none
 | j::r=>match YZ P nt l j with
   | some x=>some x
   | none=>KM P nt l r
def QI:PK->Bool
 | .ex _ _=>true
 | .ln _=>true
 | .bin _ _ _=>true
 | .sc _ _ _ _=>true
 | .cv _ _=>true
 | .not _=>true
 | _=>false
def zck (a:Array Oper) (u r nt:Nat):Bool:=
 decide (1<=r) && decide (u+r+1<=a.size) &&
 ((List.range (u+r)).all fun i=>
   match a[i]? with
   | none=>false
   | some o=>((zA o).all (yB a (u+r) i)) &&
     (match o.guard with | none=>true | some (j,_)=>decide (j<i) && edge a i j && (zJ a j).isSome) &&
     (match o.dst with | none=>true | some d=>decide (d<nt) && (List.range (u+r)).all fun j=>decide (j=i) || !(zJ a j == some d))) &&
 ((List.range u).all fun i=>(List.range (u+r+1)).any fun j=>decide (i<j) && !(decide (u<=j) && decide (j<u+r)) && edge a j i) &&
 ((List.range (u+r)).all fun i=>!(decide (u<=i) && decide (i+1<u+r)) || edge a (i+1) i) &&
 (decide (u+r+1=a.size) || edge a (u+r+1) (u+r - 1))
def zcU (a b:PO) (i:PI):Bool:=i.g.isNone && QI i.k && (match i.d with | some d=>jY d a && jY d b | none=>true)
def zcw (P:Program) (nt m r:Nat) (l:List Oper):Option PC:=(zI P nt l.toArray l).bind fun is=>
 match is.drop (m+r) with
 | ⟨none,none,.st a b n⟩::t=>
   if zck l.toArray m r nt && yK l.toArray (m+r) && ((is.drop m).take r).all (zcU a b) then some (.dr (is.take (m+r)) (⟨none,none,.st a b n⟩::t)) else none
 | _=>none
def zfj (l:List Oper):List Nat:=let a:=Zr l [] [] 0;(List.range l.length).filter fun i=>!a.contains i && !(edge l.toArray (a.headD 0) i)
def zis (l:List Oper):List Nat:=let a:=Zr l [] [] 0;(List.range l.length).filter (fun i=>!a.contains i && !(zfj l).contains i)++zfj l++a
def zcv (P:Program) (nt:Nat) (l:List Oper):Option PC:=if q9 l.length (zis l) then zcw P nt (l.length - (Zr l [] [] 0).length - (zfj l).length) (zfj l).length (z8 l (zis l)) else none
def YW (P:Program) (nt:Nat) (l:List Oper):Option PC:=match Jv P nt l with
 | some x=>some x
 | none=>zct P nt l
def zcu (P:Program) (nt:Nat) (l:List Oper):Option PC:=match YW P nt l with
 | some x=>some x
 | none=>match (if q9 l.length (zk4 l) then YW P nt (z8 l (zk4 l)) else none) with
   | some x=>some x
   | none=>match zcv P nt l with
     | some x=>some x
     | none=>KM P nt l (List.range l.length)
def qx (P:Program) (nt:Nat) (j:List Nat):Code->Option PC
 | .skip=>some .sk
 | .label _=>some .sk
 | .region id ops draw=>if j.contains id then some (.man (.region id ops draw)) else
   match draw with
   | false=>(zI P nt ops ops.toList).map .rg
   | true=>if P.follows .mixedOrders then zcu P nt ops.toList else none
 | .seq a b=>(qx P nt j a).bind fun x=>(qx P nt j b).map fun y=>.sq x y
 | .cond c a b=>(po c).bind fun c=>(qx P nt j a).bind fun x=>(qx P nt j b).map fun y=>.cd c x y
 | .block id a=>(qx P nt j a).map (.bk id)
 | .loop a=>(qx P nt j a).map (.lp [])
 | .exit id=>some (.ex id)
 | .ret=>some .rt
 | .scope a=>qx P nt j a
 | _=>none
variable {P:Program} {B:Bs} {nt:Nat} {g:Gh} {s:PS} {a:Act} {w:World} {D:Nat->Nat->Prop} {ρ:Nat->Nat} {nb:Nat}
theorem Rel1.low {a:Nat} {u:Value} {p:PV} (h:Rel1 D ρ nb w u p) (hl:JU a p=true):Rel1 D ρ a w u p:=by
 rcases h with h | ⟨i,o,rfl,hi,rfl⟩
 ·exact .inl h
 ·exact .inr ⟨i,o,rfl,by simpa [JU] using hl,rfl⟩
theorem Rel.low {j:Nat} {u:Value} {p:PV} (h:Rel D ρ nb w u p) (hl:zbe j p=true):Rel D ρ j w u p:=by
 rcases h with h | ⟨f,G,H,A,y,rfl,rfl,B,C,E,F⟩
 ·refine .inl (h.low ?_)
  cases p<;>first | rfl | exact hl
 ·simp only [zbe,Bool.and_eq_true,List.all_eq_true] at hl
  exact .inr ⟨f,G,H,A,y,rfl,rfl,B,C,fun i q a=>(E i q a).low (hl.1 q (List.mem_of_getElem? a)),fun i q a=>(F i q a).low (hl.2 q (List.mem_of_getElem? a))⟩
theorem zgY {u:Value} (h:Rel D ρ nb w u (.sl [] .z)):∃ a,u=.slice a 0 0:=by
 obtain⟨a,j,C,b,A,f,e,B,y,_⟩:=h.inv_sl
 have:=y rfl
 exact⟨a,by rw [e,this];rfl⟩
theorem SubP.rel {a:Nat} {u:Value} {p q:PV} (h:SubP a p q) (y:Rel D ρ nb w u p):Rel D ρ a w u q:=by
 cases h with
 | und=>exact .dat (.und _)
 | eq _ h=>exact y.low h
 | sh _ h=>exact y.sh.low (by cases p<;>first | rfl | exact h)
 | nil n B=>
   obtain⟨A,rfl⟩:=zgY y
   exact .dat (.sl A 0 1 [] _ 0 0 (fun _=>undef) (Nat.le_refl _) (fun h=>by cases h) (Nat.zero_le _) (fun h=>absurd rfl h) (fun i e h=>by simp at h) (fun j h=>absurd h (by simp)) (fun i e j p h=>by simp at h))
theorem SubP.own {a:Nat} {u:Value} {p q:PV} (h:SubP a p q) (y:Rel D ρ nb w u p) (ho:q.own≠none):q=p\/(zc u=none/\∀ D W w,yW D W w u q):=by
 cases h with
 | und=>exact absurd rfl ho
 | eq _ h=>exact .inl rfl
 | sh _ h=>exact absurd p.sh_own ho
 | nil n A=>
   obtain⟨j,rfl⟩:=zgY y
   exact .inr ⟨by cases j<;>rfl,fun _ _ _=>.inl ⟨j,rfl,rfl⟩⟩
theorem SubT.get {t:List (Nat × PV)}:∀ {a:List (Nat × PV)},SubT nb t a->∀ i,SubP nb (yr t i) (yr a i)
 | [],_,i=>.und _
 | (j,q)::r,h,i=>by
   by_cases e:j=i
   ·subst e
    simp only [yr,if_true]
    exact h.1
   ·simp only [yr,if_neg e]
    exact SubT.get h.2 i
theorem SubB.get {l w:List (List PV)} (h:SubB nb l w):w.length<=l.length/\∀(i:Nat) a,w[i]? = some a->∃ u:List PV,l[i]? = some u/\u.length=a.length/\∀(j:Nat) p q,u[j]? = some p->a[j]? = some q->SubP nb p q:=by
 induction h with
 | nil l=>exact⟨by simp,fun i a h=>by simp at h⟩
 | cons u a l w h A hl ih=>
   refine⟨by simpa using ih.1,fun i y hi=>?_⟩
   cases i with
   | zero=>simp at hi;subst hi;exact⟨u,rfl,h,A⟩
   | succ i=>simpa using ih.2 i y (by simpa using hi)
theorem R.weak {s':PS} {x:Nat->Value} (h:R B g s x w) (hs:YQ s s'):R B g s' x w:=by
 obtain⟨N,L⟩:=hs.2.get
 have M:=hs.1.get
 have a:∀ u q,zQ g s' x w u q->∃ p,zQ g s x w u p/\SubP s'.b.length p q:=by
  rintro u q (⟨t,rfl,rfl⟩ | ⟨i,j,A,y,E,Q⟩)
  ·exact⟨_,h.slot t,M t⟩
  ·obtain⟨C,e1,e2,J⟩:=L i A y
   have F:j<C.length:=by rw [e2];exact(List.getElem?_eq_some_iff.1 E).1
   exact⟨C[j],.inr ⟨i,j,C,e1,List.getElem?_eq_getElem F,Q⟩,J j _ _ (List.getElem?_eq_getElem F) E⟩
 refine⟨fun t=>(M t).rel (h.slots t),?_,fun i j hi F=>h.inj i j (by omega) (by omega),?_,?_,?_,h.dlt,fun i hi=>h.dbox i (by omega),h.fr⟩
 ·intro i A hi
  obtain⟨C,e1,e2,J⟩:=L i A hi
  obtain⟨S,Y,e,T,hz,hb⟩:=h.boxes i C e1
  refine⟨S,Y,e,T,hz.trans e2,fun j q I=>?_⟩
  have F:j<C.length:=by rw [e2];exact(List.getElem?_eq_some_iff.1 I).1
  have:=hb j _ (List.getElem?_eq_getElem F)
  exact⟨(J j _ _ (List.getElem?_eq_getElem F) I).rel this.1,this.2⟩
 ·intro u q I
  by_cases ho:q.own=none
  ·exact zr ho
  ·obtain⟨p,y,E⟩:=a u q I
   rcases E.own (h.slot_rel y) ho with rfl | ⟨_,hk⟩
   ·exact h.owns u q y
   ·exact hk _ _ _
 ·intro u q X V b y E H P b1 b2
  obtain⟨p,G,K⟩:=a u q y
  obtain⟨Z,O,U⟩:=a X V E
  rcases K.own (h.slot_rel G) H with rfl | ⟨hk,_⟩
  ·rcases U.own (h.slot_rel O) P with rfl | ⟨hk,_⟩
   ·exact h.disj _ _ _ _ b G O H P b1 b2
   ·rw [hk] at b2;cases b2
  ·rw [hk] at b1;cases b1
 ·intro u q b i y H b1 hi
  obtain⟨p,G,K⟩:=a u q y
  rcases K.own (h.slot_rel G) H with rfl | ⟨hk,_⟩
  ·exact h.ownbox _ _ b i G H b1 (by omega)
  ·rw [hk] at b1;cases b1
theorem RA.weak {s':PS} (h:RA B nt g s a w) (hs:YQ s s'):RA B nt g s' a w:=⟨h.1.weak hs,h.2⟩
theorem zD (a:Act) (d:Option Nat) (u:Value):(a.put d u).tmps.size=a.tmps.size/\(a.put d u).defers=a.defers:=by cases d<;>simp [Act.put]
theorem ZT {c b:Bool} (h:¬ c=b):c=!b:=by cases c<;>cases b<;>first | rfl | exact absurd rfl h
theorem RA.fix (h:RA B nt g s a w) {t:Nat} {b:Bool} (ht:t<a.tmps.size) (j:a.tmps.getD t undef=.bool b):RA B nt g (s.put (some t) (.v (.bool b))) a w:=by
 have e:QO (zB a) (some t) (.bool b)=zB a:=by
  funext i
  by_cases h:t=i
  ·subst h;rw [kN];exact j.symm
  ·rw [QP _ _ h]
 refine⟨?_,h.2⟩
 have:=h.1.put (some t) (u:=.bool b) (p:=.v (.bool b)) (.dat (.v _)) (.none rfl)
 rw [e] at this;exact this
def EqS (s s':PS):Prop:=(∀ t,s.get t=s'.get t)/\s.b=s'.b
theorem EqS.refl (s:PS):EqS s s:=⟨fun _=>rfl,rfl⟩
theorem EqS.put {s s':PS} (h:EqS s s') (d:Option Nat) (p:PV):EqS (s.put d p) (s'.put d p):=by
 cases d with
 | none=>exact h
 | some d=>
   refine⟨fun t=>?_,h.2⟩
   by_cases e:d=t
   ·subst e;rw [zF,zF]
   ·rw [zV _ _ e,zV _ _ e];exact h.1 t
theorem EqS.fix {s s':PS} (h:EqS s s') {t:Nat} {p:PV} (a:s'.get t=p):EqS (s.put (some t) p) s':=by
 refine⟨fun i=>?_,h.2⟩
 by_cases e:t=i
 ·subst e;rw [zF];exact a.symm
 ·rw [zV _ _ e];exact h.1 i
theorem RA.eqS {s s':PS} (h:RA B nt g s a w) (e:EqS s' s):RA B nt g s' a w:=by
 obtain⟨t,b⟩:=s
 obtain⟨O,j⟩:=s'
 obtain⟨e1,e2⟩:=e
 simp only at e2
 subst e2
 obtain⟨⟨y,A,C,E,F,G,H,I,J⟩,K⟩:=h
 have hs:∀ u p,zQ g ⟨O,j⟩ (zB a) w u p->zQ g ⟨t,j⟩ (zB a) w u p:=fun u p h=>by
  rcases h with⟨i,rfl,rfl⟩ | h
  ·exact .inl ⟨i,rfl,e1 i⟩
  ·exact .inr h
 exact⟨⟨fun i=>by rw [e1 i];exact y i,A,C,fun u p h=>E u p (hs u p h),fun u p P N b L M=>F u p P N b (hs _ _ L) (hs _ _ M),fun u p b i k=>G u p b i (hs _ _ k),H,I,J⟩,K⟩
theorem z5 {A:Array Oper} {Q:PX->PS->Prop}:∀(l:List Oper) (is:List PI) (s:PS) (g:Gh) (a:Act) (w:World),zI P nt A l=some is->ze P is (Q .n) s->RA B nt g s a w ->
 wpList P A (QL B nt Q) l a w
 | [],is,s,g,a,w,y,hq,h=>by
   cases y
   exact⟨s,g,h,hq⟩
 | o::l,is,s,g,a,w,y,hq,h=>by
   simp only [zI,Option.bind_eq_some_iff] at y
   obtain⟨k,hk,r,K,y⟩:=y
   split at y
   ·rename_i hd
    have G:∀ t,o.dst=some t->t<a.tmps.size:=fun t ht=>by
     rw [ht] at hd
     rw [h.2.2];simpa [vd] using hd
    -- the operation,carried out
    have run:∀ s,RA B nt g s a w->k.e P o.dst s (ze P r (Q .n))->o.wp P a w (wpList P A (QL B nt Q) l) (QL B nt Q):=fun s h J=>by
     refine ZO hk G h.1 J _ _ fun s' L u O M N=>?_
     exact z5 l r s' L _ O K M ⟨N,by rw [(zD _ _ _).2];exact h.2.1,by rw [(zD _ _ _).1];exact h.2.2⟩
    have skip:∀ s,RA B nt g s a w->ze P r (Q .n) (s.put o.dst (.v undef))->wpList P A (QL B nt Q) l (a.put o.dst undef) w:=fun s h J=>by
     refine z5 l r _ g _ w K J ⟨?_,by rw [(zD _ _ _).2];exact h.2.1,by rw [(zD _ _ _).1];exact h.2.2⟩
     rw [zN G]
     exact h.1.put o.dst (.dat (.v _)) (.none rfl)
    unfold wpList
    split at y
    ·rename_i hg
     cases y
     simp only [Region.wanted,hg,if_true]
     exact .inl (run s h hq)
    ·rename_i j b hg
     simp only [Option.bind_eq_some_iff] at y
     obtain⟨t,ht,y⟩:=y
     split at y
     ·rename_i htn
      cases y
      have F:t<a.tmps.size:=by rw [h.2.2];exact htn
      have I:=yS ht F
      simp only [ze,PI.guard] at hq
      have hrel:=h.1.slots t
      split at hq
      ·rename_i c e
       rw [e] at hrel
       have H:a.tmps.getD t undef=.bool c:=hrel.v_inv
       rw [H] at I
       by_cases E:c=b
       ·subst E
        rw [if_pos (by simp [Region.wanted,hg,I])]
        exact .inl (run _ (h.fix F H) (hq.1 rfl))
       ·rw [if_neg (by simp [Region.wanted,hg,I,E])]
        have C:=ZT E
        exact skip _ (h.fix F (by rw [H,C])) (hq.2 C)
      ·rename_i vs e
       rw [e] at hrel
       have H:a.tmps.getD t undef=.tuple vs:=hrel.v_inv
       rw [H] at I
       rw [if_neg (by simp [Region.wanted,hg,I])]
       exact skip _ h hq.2
      ·exact hq.elim
     ·cases y
   ·cases y
def VN (j:Nat->Value) (a:Nat) (D:Nat->Nat->Prop) (ρ:Nat->Nat) (nb:Nat) (p:PV):VP:=fun u w=>Rel D ρ nb w u p/\NewOk j a w u p
def qq (u:Nat->Value) (a:Nat) (D:Nat->Nat->Prop) (ρ:Nat->Nat) (nb:Nat) (j:List (Option Nat × PV)):List (Option Tmp × VP):=j.map fun y=>(y.1,VN u a D ρ nb y.2)
def zy (s:PS) (a:List (Option Nat × PV)):PS:=a.foldl (fun s y=>s.put y.1 y.2) s
def ke (a:List (Option Nat × PV)):Prop:=a.Pairwise fun x y=>x.1=none\/x.1≠y.1
theorem zaq (s:PS) (d:Option Nat) (p:PV):(s.put d p).b=s.b:=by cases d<;>rfl
theorem qp:∀(a:List (Option Nat × PV)) (s:PS),(zy s a).b=s.b
 | [],_=>rfl
 | (d,p)::a,s=>(qp a (s.put d p)).trans (zaq s d p)
theorem qt {t:Nat}:∀(a:List (Option Nat × PV)) (s:PS),(∀ x ∈ a,x.1≠some t)->(zy s a).get t=s.get t
 | [],_,_=>rfl
 | (d,p)::a,s,h=>by
   have j:=qt a (s.put d p) fun x w=>h x (by simp [w])
   have u:=h (d,p) (by simp)
   rw [show zy s ((d,p)::a)=zy (s.put d p) a from rfl,j]
   cases d with
   | none=>rfl
   | some d=>exact zV s p fun e=>u (by rw [e])
theorem kZ {x0:Nat->Value} {n0 t:Nat}:∀(a:List (Option Nat × PV)) (s:PS),ke a->(∃ p,(some t,p) ∈ a/\lk (qq x0 n0 D ρ nb a) t=some (VN x0 n0 D ρ nb p)/\(zy s a).get t=p)\/(lk (qq x0 n0 D ρ nb a) t=none/\(zy s a).get t=s.get t)
 | [],s,_=>.inr ⟨rfl,rfl⟩
 | (d,p)::a,s,h=>by
   have w:=List.pairwise_cons.1 h
   by_cases e:d=some t
   ·subst e
    refine .inl ⟨p,by simp,by simp [qq,lk],?_⟩
    rw [show zy s ((some t,p)::a)=zy (s.put (some t) p) a from rfl,qt]
    ·exact zF s t p
    ·intro x B e
     rcases w.1 x B with j | j
     ·cases j
     ·exact j e.symm
   ·rcases kZ (t:=t) a (s.put d p) w.2 with⟨q,j,u,A⟩ | ⟨j,u⟩
    ·exact .inl ⟨q,by simp [j],by simpa [qq,lk,e] using u,A⟩
    ·refine .inr ⟨by simpa [qq,lk,e] using j,?_⟩
     rw [show zy s ((d,p)::a)=zy (s.put d p) a from rfl,u]
     cases d with
     | none=>rfl
     | some d=>exact zV s p fun y=>e (by rw [y])
theorem YK (s:PS) (a:List (Option Nat × PV)) (d:Option Nat) (p:PV):zy s (a++[(d,p)])=(zy s a).put d p:=by simp [zy,List.foldl_append]
theorem JC {j:Nat->Value} {a:Nat} (u:List (Option Nat × PV)) (d:Option Nat) (p:PV):qq j a D ρ nb (u++[(d,p)])=qq j a D ρ nb u++[(d,VN j a D ρ nb p)]:=by simp [qq]
theorem qu {w a:World} (h:Keep qe w a):Below w.heap.size w a:=h.below (Nat.le_refl _) fun _ _=>id
theorem Rel.nob {w j:World} {u:Value} {p:PV} (h:Rel D ρ nb w u p) (hk:Keep qe w j):Rel D ρ nb j u p:=h.mono (fun _ _ h=>h) (fun b o x _ a=>qa (qu hk) (qF a) a) (Nat.le_refl _) fun _ _=>rfl
theorem kS {Q:Nat->Value} {P:Nat} {F:Act->World->Prop} {I:Nat->Nat->Prop}:∀(y:List (Option Nat × PV)) (s:PS) (a:Act),ke y->(∀ x ∈ y,x.2.own=none)->(∀ x ∈ y,∀ d,x.1=some d->d<nt)->(∀ b o,(D b o/\b<w.heap.size)->I b o)->RA B nt ⟨I,ρ⟩ s a w->s.b.length=nb ->
 (∀ C,RA B nt ⟨I,ρ⟩ (zy s y) C w->(∀ t p,(some t,p) ∈ y->NewOk Q P w (zB C t) p)->(∀ t,(∀ x ∈ y,x.1≠some t)->zB C t=zB a t)->F C w)->finG F w (qq Q P D ρ nb y) a
 | [],s,a,_,_,_,_,h,_,hF=>hF a h (fun t p h=>by cases h) fun _ _=>rfl
 | (none,p)::y,s,a,h0,h1,h2,h3,h,hb,hF=>kS y s a (List.pairwise_cons.1 h0).2 (fun x j=>h1 x (by simp [j])) (fun x j=>h2 x (by simp [j])) h3 h hb fun C M N H=>hF C M (fun t q A=>N t q (by
     rcases List.mem_cons.1 A with A | A
     ·cases A
     ·exact A)) (fun t ht=>H t fun x j=>ht x (by simp [j]))
 | (some d,p)::y,s,a,h0,h1,h2,h3,h,hb,hF=>by
   intro u O
   have S:=h2 (some d,p) (by simp) d rfl
   have G:=List.pairwise_cons.1 h0
   have J:d<a.tmps.size:=by rw [h.2.2];exact S
   have E:zB (a.put (some d) u)=QO (zB a) (some d) u:=zN (by intro t ht;cases ht;exact J)
   have K:∀ x ∈ y,x.1≠some d:=fun x j e=>by
    rcases G.1 x j with h | h
    ·cases h
    ·exact h e.symm
   refine kS y (s.put (some d) p) _ G.2 (fun x j=>h1 x (by simp [j])) (fun x j=>h2 x (by simp [j])) h3 ⟨?_,by rw [(zD _ _ _).2];exact h.2.1,by rw [(zD _ _ _).1];exact h.2.2⟩ (by rw [zaq];exact hb) fun C M N H=>hF C M (fun t q A=>?_) fun t ht=>?_
   ·rw [E]
    have L:Rel D ρ nb w u p:=O.1
    refine h.1.put (some d) ?_ (.none (h1 (some d,p) (by simp)))
    rw [hb]
    exact L.restrict.mono h3 (fun _ _ _ _ h=>h) (Nat.le_refl _) fun _ _=>rfl
   ·rcases List.mem_cons.1 A with A | A
    ·cases A
     rw [H d K,E,kN]
     exact O.2
    ·exact N t q A
   ·rw [H t fun x j=>ht x (by simp [j]),E]
    exact QP _ _ fun e=>ht (some d,p) (by simp) (by rw [e])
theorem R.slotsU {s:PS} {x A:Nat->Value} (h:R B g s x w) (C:∀ t,s.get t=.und\/A t=x t):R B g s A w:=by
 have hs:∀ u p,zQ g s A w u p->p.own≠none->zQ g s x w u p:=fun u p a ho=>by
  rcases a with⟨t,rfl,rfl⟩ | a
  ·rcases C t with h | h
   ·rw [h] at ho;exact absurd rfl ho
   ·exact .inl ⟨t,h,rfl⟩
  ·exact .inr a
 refine⟨fun t=>?_,h.boxes,h.inj,fun u p a=>?_,fun u p I H b F G j E=>h.disj u p I H b (hs _ _ F j) (hs _ _ G E) j E,fun u p b i k j=>h.ownbox u p b i (hs _ _ k j) j,h.dlt,h.dbox,h.fr⟩
 ·rcases C t with y | y
  ·rw [y];exact .dat (.und _)
  ·rw [y];exact h.slots t
 ·by_cases ho:p.own=none
  ·exact zr ho
  ·exact h.owns _ _ (hs _ _ a ho)
theorem Z6:∀(h:List PI) (s:PS) (t:Nat),(qI h s).get t=.und\/((qI h s).get t=s.get t/\∀ i ∈ h,i.d≠some t)
 | [],s,t=>.inr ⟨rfl,fun i h=>by cases h⟩
 | i::h,s,t=>by
   rcases Z6 h (s.put i.d .und) t with e | ⟨e,k⟩
   ·exact .inl e
   ·by_cases a:i.d=some t
    ·left
     rw [show qI (i::h) s=qI h (s.put i.d .und) from rfl,e,a,zF]
    ·right
     refine⟨?_,fun j u=>?_⟩
     ·rw [show qI (i::h) s=qI h (s.put i.d .und) from rfl,e]
      cases hdd:i.d with
      | none=>rfl
      | some d=>exact zV s .und fun w=>a (by rw [hdd,w])
     ·rcases List.mem_cons.1 u with rfl | u
      ·exact a
      ·exact k j u
theorem yM:∀(h:List PI) (s:PS),(qI h s).b=s.b
 | [],_=>rfl
 | i::h,s=>(yM h (s.put i.d .und)).trans (zaq s i.d .und)
theorem R.forget {h:List PI} {s:PS} {x G:Nat->Value} (a:R B g s x w) (I:∀ t,(∀ i ∈ h,i.d≠some t)->G t=x t):R B g (qI h s) G w:=by
 have E:∀ t,(Go.Proofs.YtonhfknjcbakiaaGreatDoor.qI h s).get t=.und\/((Go.Proofs.YtonhfknjcbakiaaGreatDoor.qI h s).get t=s.get t/\∀ i ∈ h,i.d≠some t):=Z6 h s
 have M:R B g (Go.Proofs.YtonhfknjcbakiaaGreatDoor.qI h s) x w:=by
  have hs:∀ u p,zQ g (Go.Proofs.YtonhfknjcbakiaaGreatDoor.qI h s) x w u p->p.own≠none->zQ g s x w u p:=fun u p A ho=>by
   rcases A with⟨t,rfl,rfl⟩ | A
   ·rcases E t with h | h
    ·rw [h] at ho;exact absurd rfl ho
    ·exact .inl ⟨t,rfl,h.1⟩
   ·rw [yM] at A;exact .inr A
  refine⟨fun t=>?_,fun i H hi=>?_,fun i j=>by rw [yM];exact a.inj i j,fun u p A=>?_,fun u p N L b J K C F=>a.disj u p N L b (hs _ _ J C) (hs _ _ K F) C F,fun u p b i k C b1 hi=>a.ownbox u p b i (hs _ _ k C) C b1 (by rw [yM] at hi;exact hi),a.dlt,fun i hi=>a.dbox i (by rw [yM] at hi;exact hi),a.fr⟩
  ·rw [yM]
   rcases E t with y | y
   ·rw [y];exact .dat (.und _)
   ·rw [y.1];exact a.slots t
  ·rw [yM] at hi ⊢;exact a.boxes i H hi
  ·by_cases ho:p.own=none
   ·exact zr ho
   ·exact a.owns _ _ (hs _ _ A ho)
 refine M.slotsU fun t=>?_
 rcases E t with y | y
 ·exact .inl y
 ·exact .inr (I t y.2)
theorem kj {E:Nat->Nat->Prop} {G:World} {y:Nat} {A:List Value} {a:List (List PV)} (h:RowD D w y A a) (F:qK a):RowD E G y A a:=by
 refine⟨h.1,h.2.1,h.2.2.1,fun i e j p B C=>?_⟩
 obtain⟨x,rfl⟩:=F e (List.mem_of_getElem? B) p (List.mem_of_getElem? C)
 have:=h.2.2.2 i e j _ B C
 generalize A.getD (i * y+j) undef=u at this ⊢
 cases this
 exact .v _
theorem zmh {o:Oper} {x y:Operand} {t e:TypeId} {i:TypeInfo} {z:Value} {S:Nat} (h:ApOp P o x y t e i z) {B A:List (List PV)} {k:Ow} (hx:Rel D ρ nb w (a.eval x) (.sl B (.n i.size))) {x0:Nat->Value} (hN:NewOk x0 S w (a.eval x) (.sl B (.n i.size))) (hy:Rel D ρ nb w (a.eval y) (.sl A k)) (Y:S<=w.heap.size)
 (h1:∀ e ∈ B,e.length=i.size) (h2:∀ e ∈ A,e.length=i.size) (ae:(B.length+A.length) * i.bytes<=140737488355328) (Z:A≠[]) :
 ∃ H u K Q F O,(execOp a.eval o).run P w=.ok (.value (.slice (some ⟨H,0,none⟩) (B++A).length u)) O/\S<=H/\Below S w O/\O.heap[H]? = some (.cells K Q (0,0))/\(B++A).length<=u/\u<=maxLen/\K.size=u * i.size /\
  RowD D w i.size F (B++A)/\∀ j,j<F.length->K[j]? = some (F.getD j undef):=by
 obtain⟨ad,J,F,e1,c1,c2,_,r1,g1⟩:=x5 hx h1
 obtain⟨aj,u,E,e2,d1,d2,_,T,g2⟩:=x5 hy h2
 obtain⟨b',ac,rfl,g3⟩:=g2 Z
 have ai:0<A.length:=List.length_pos_iff.2 Z
 have L:∀ j v,E[j]? = some v->w.cell? ((⟨b',ac,none⟩:Addr).add j)=some v:=fun j v hv=>by rw [zh];exact(g3 j v hv).2
 have M:B.length≠0->∃ b,ad=some b/\∀ j v,F[j]? = some v->w.cell? (b.add j)=some v:=fun hn=>by
  obtain⟨b,ah,rfl,g4⟩:=g1 (by intro e;subst e;simp at hn)
  exact⟨_,rfl,fun j v hv=>by rw [zh];exact(g4 j v hv).2⟩
 have grow:J<B.length+A.length->(ad=none->J=0)->∃ H u K Q F O,(execOp a.eval o).run P w=.ok (.value (.slice (some ⟨H,0,none⟩) (B++A).length u)) O/\S<=H/\Below S w O/\O.heap[H]? = some (.cells K Q (0,0))/\(B++A).length<=u/\u<=maxLen/\K.size=u * i.size /\
  RowD D w i.size F (B++A)/\∀ j,j<F.length->K[j]? = some (F.getD j undef):=fun U ab=>by
  obtain⟨cp,K,hr,k1,k2,k3,k4⟩:=yJ (P:=P) (w:=w) (ty:=o.type) (c:=u) h.ht h.hi h.hz h.hzs h.hb r1.1 T.1 M ab L U ae
  refine⟨w.heap.size,cp,K,e,F++E,_,by rw [List.length_append];exact h.run e1 e2 hr,Y,(qk w _).mono Y,World.alloc_heap_new w.drew _,by simpa using k1,k2,k3,r1.append T,k4⟩
 rcases hN with⟨ak,hu⟩ | ⟨H,cp,G,Q,hg,hu,hh,V⟩
 ·rw [e1] at hu
  injection hu with h5 h6 h7
  refine grow (by omega) fun hn=>?_
  by_cases he:B=[]
  ·subst he;simpa using h7
  ·obtain⟨b,ah,e,_⟩:=g1 he;rw [hn] at e;cases e
 ·rw [e1] at hu
  injection hu with h5 h6 h7
  subst h5
  subst h7
  by_cases C:B.length+A.length<=J
  ·have X:B.length * i.size+E.length<=G.size:=by rw [T.1,V,<-Nat.add_mul];exact Nat.mul_le_mul_right _ C
   have hr:=vm (P:=P) (w:=w) (ty:=o.type) (c:=u) h.ht h.hi hh T.1 L (Xv T) C X
   obtain⟨new,N⟩:∃ new,(G.toList.take (B.length * i.size)++E++G.toList.drop (B.length * i.size+E.length)).toArray=new:=⟨_,rfl⟩
   rw [N] at hr
   have ag:F.length=B.length * i.size:=r1.1
   refine⟨H,J,new,Q,F++E,w.setRow H new,by rw [List.length_append];exact h.run e1 e2 hr,hg,⟨rfl,rfl,rfl,by simp,fun k hk=>setRow_other w _ _ new (by omega)⟩,setRow_heap w H G new Q (0,0) hh,by simpa using C,c2,by rw [<-V,<-N];simp;omega,r1.append T,fun j hj=>?_⟩
   have ht:(G.toList.take (B.length * i.size)).length=B.length * i.size:=by simp;omega
   rw [<-N]
   simp only [List.getElem?_toArray]
   rw [List.length_append] at hj
   rw [List.getD_eq_getElem?_getD,List.append_assoc]
   by_cases h1:j<B.length * i.size
   ·have I:j<F.length:=by omega
    have af:B.length≠0:=by intro e;rw [e] at h1;omega
    obtain⟨b,eb,hb⟩:=M af
    cases eb
    have:=hb j _ (List.getElem?_eq_getElem I)
    rw [zh] at this
    simp only [World.cell?,hh,Nat.zero_add] at this
    rw [List.getElem?_append_left (by omega),List.getElem?_take,if_pos h1,List.getElem?_append_left I,List.getElem?_eq_getElem I]
    simpa using this
   ·rw [List.getElem?_append_right (by omega),ht,List.getElem?_append_left (by omega),List.getElem?_append_right (by omega),ag]
    have I:j - B.length * i.size<E.length:=by omega
    rw [List.getElem?_eq_getElem I]
    rfl
  ·exact grow (by omega) fun h=>by cases h
theorem JS {x0:Nat->Value} {n0 t:Nat}:∀(a:List (Option Nat × PV)) (p:PV),(some t,p) ∈ a->lk (qq x0 n0 D ρ nb a) t≠none
 | y::a,p,h=>by
   by_cases e:y.1=some t
   ·simp [qq,lk,e]
   ·rcases List.mem_cons.1 h with h | h
    ·rw [<-h] at e;exact absurd rfl e
    ·have:=JS (x0:=x0) (n0:=n0) a p h
     simpa [qq,lk,e] using this
theorem Z8 {X:Array Oper} {Q:Exit->Act->World->Prop} {F:Act->World->Prop} {s0:PS} {a0:Act} {w0:World} {nh:Nat} (J:xk X nh nt=true) {K:PS->Prop}
 (h0:∀ w,Keep qe w0 w->∀ t,Rel D ρ s0.b.length w (a0.tmps.getD t undef) (s0.get t)) (Z:∀ w,Keep qe w0 w->∀(i:Nat) cs,s0.b[i]? = some cs->zaA ⟨D,ρ⟩ s0.b.length w i cs) (ak:∀ w,Keep qe w0 w->GL D w) (ab:∀ b o,w0.heap.size<=b->D b o) (ag:∀ t,(s0.get t).isN=false)
 (hF:∀ A w,Keep qe w0 w->ke A->A.length=nh->(∀(j:Nat) x,A[j]? = some x->x.1=zJ X j)->(∀ x ∈ A,x.2.own=none)->(∀ x ∈ A,∀ d,x.1=some d->d<nt)->(∃ s',EqS s' (zy s0 A)/\K s')->finG F w (qq (zB a0) w0.heap.size D ρ s0.b.length A) a0) :
 ∀(l:List Oper) (is:List PI) (A:List (Option Nat × PV)) (s':PS),EqS s' (zy s0 A)->zI P nt X l=some is->A.length+l.length=nh->(∀ j,j<l.length->X[A.length+j]? = l[j]?)->(∀(j:Nat) x,A[j]? = some x->x.1=zJ X j)->ke A->(∀ x ∈ A,x.2.own=none) ->
  zf P is K s'->walkG qe (xC P Q) a0 w0 (fun w=>Keep qe w0 w) F l (qq (zB a0) w0.heap.size D ρ s0.b.length A)
 | [],is,A,s',B,E,hl,ho,hd,hdd,hown,T=>by
   cases E
   intro w hw _
   refine hF A w hw hdd (by simpa using hl) hd hown (fun x L d ae=>?_) ⟨s',B,T⟩
   obtain⟨j,I⟩:=List.getElem?_of_mem L
   have ax:j<nh:=by have:=(List.getElem?_eq_some_iff.1 I).1;simp at hl;omega
   obtain⟨o,ho,_,_,h3,_⟩:=yb J ax
   have:=hd j x I
   rw [ae] at this
   unfold zJ at this
   rw [ho] at this
   exact(h3 d this.symm).1
 | o::l,is,A,s',B,E,hl,ho,hd,hdd,hown,T=>by
   simp only [zI,Option.bind_eq_some_iff] at E
   obtain⟨k,hk,r,hr,E⟩:=E
   split at E
   ·rename_i hdk
    simp only [List.length_cons] at hl
    have hi:A.length<nh:=by omega
    obtain⟨C,ad,_,aw,av,_⟩:=yb J hi
    have aB:C=o:=by
     have:=ho 0 (by simp)
     simp only [Nat.add_zero,List.getElem?_cons_zero] at this
     rw [this] at ad
     exact(Option.some.inj ad).symm
    subst aB
    -- going on
    have next:∀(s':PS) (p:PV),EqS s' (zy s0 A)->p.own=none->zf P r K (s'.put C.dst p)->walkG qe (xC P Q) a0 w0 (fun w=>Keep qe w0 w) F l (qq (zB a0) w0.heap.size D ρ s0.b.length A++[(C.dst,VN (zB a0) w0.heap.size D ρ s0.b.length p)]):=fun s' p B hp aD=>by
     rw [<-JC]
     refine Z8 J h0 Z ak ab ag hF l r (A++[(C.dst,p)]) (s'.put C.dst p) (by rw [YK];exact B.put _ _) hr (by simp;omega) (fun j I=>?_) (fun j x I=>?_) ?_ (fun x L=>?_) aD
     ·have:=ho (j+1) (by simpa using I)
      simp only [List.getElem?_cons_succ] at this
      rw [<-this]
      congr 1
      simp;omega
     ·rcases Nat.lt_or_ge j A.length with h' | h'
      ·rw [List.getElem?_append_left h'] at I;exact hd j x I
      ·rw [List.getElem?_append_right h'] at I
       have e:j - A.length=0:=by have:=(List.getElem?_eq_some_iff.1 I).1;simp at this;omega
       rw [e] at I
       simp at I
       subst I
       have:j=A.length:=by omega
       subst this
       unfold zJ;rw [ad];rfl
     ·refine List.pairwise_append.2 ⟨hdd,by simp,fun x L y hy=>?_⟩
      simp at hy
      subst hy
      obtain⟨j,I⟩:=List.getElem?_of_mem L
      cases ae:x.1 with
      | none=>exact .inl rfl
      | some d=>
        refine .inr fun e=>?_
        have aG:=(List.getElem?_eq_some_iff.1 I).1
        have:=(av d e.symm).2 j (by omega) ((hd j x I).symm.trans ae)
        omega
     ·rcases List.mem_append.1 L with L | L
      ·exact hown x L
      ·simp at L;subst L;exact hp
    -- what is read
    have rd:∀ s',EqS s' (zy s0 A)->∀ a w,Keep qe w0 w->Rds (qq (zB a0) w0.heap.size D ρ s0.b.length A) a0 (zA C) a w->Rd D ρ s' (zB a) (zA C) w:=fun s' B a w hw G=>by
     refine⟨fun t ht=>?_,fun i cs ah=>?_,ak _ hw⟩
     ·rw [B.2,qp,B.1]
      revert ht
      generalize zA C=ts at G ⊢
      induction ts with
      | nil=>intro ht;cases ht
      | cons t' ts ih=>
        intro ht
        obtain⟨H,h2⟩:=G
        rcases List.mem_cons.1 ht with rfl | ht
        ·rcases kZ (x0:=zB a0) (n0:=w0.heap.size) (D:=D) (ρ:=ρ) (nb:=s0.b.length) (t:=t) A s0 hdd with⟨p,_,e1,e2⟩ | ⟨e1,e2⟩
         ·rw [e1] at H
          obtain⟨u,hu,hv⟩:=H
          rw [e2]
          have:zB a t=u:=hu.2.1
          rw [this];exact hv.1
         ·rw [e1] at H
          rw [e2]
          have:zB a t=a0.tmps.getD t undef:=H.2.1
          rw [this];exact h0 w hw t
        ·exact ih h2 ht
     ·rw [B.2,qp] at ah ⊢
      exact Z w hw i cs ah
    have nw:∀ s',EqS s' (zy s0 A)->∀ a w,Keep qe w0 w->Rds (qq (zB a0) w0.heap.size D ρ s0.b.length A) a0 (zA C) a w->zbZ (zB a0) w0.heap.size s' (zB a) (zA C) w:=fun s' B a w hw G=>by
     refine⟨hw.size,fun t ht=>?_⟩
     rw [B.1]
     revert ht
     generalize zA C=ts at G ⊢
     induction ts with
     | nil=>intro ht;cases ht
     | cons t' ts ih=>
       intro ht
       obtain⟨H,h2⟩:=G
       rcases List.mem_cons.1 ht with rfl | ht
       ·rcases kZ (x0:=zB a0) (n0:=w0.heap.size) (D:=D) (ρ:=ρ) (nb:=s0.b.length) (t:=t) A s0 hdd with⟨p,aC,e1,e2⟩ | ⟨e1,e2⟩
        ·rw [e1] at H
         obtain⟨u,hu,hv⟩:=H
         rw [e2]
         have:zB a t=u:=hu.2.1
         rw [this]
         exact⟨hv.2,fun ho=>absurd (hown _ aC) ho⟩
        ·rw [e1] at H
         rw [e2]
         have:zB a t=a0.tmps.getD t undef:=H.2.1
         exact⟨xA (ag t),fun _=>this.symm⟩
       ·exact ih h2 ht
    have run:∀ s',EqS s' (zy s0 A)->(k.q P s' fun p=>p.own=none/\zf P r K (s'.put C.dst p))->∃ p:PV,p.own=none/\headOk qe (xC P Q) a0 w0 (fun w=>Keep qe w0 w) (qq (zB a0) w0.heap.size D ρ s0.b.length A) C (VN (zB a0) w0.heap.size D ρ s0.b.length p)/\zf P r K (s'.put C.dst p):=fun s' B N=>by
     obtain⟨p,H,h2⟩:=zat k _ N
     obtain⟨hp,H⟩:=H
     refine⟨p,hp,?_,H⟩
     intro a w E ac aq K2 ar
     obtain⟨p',rfl,_,aE⟩:=y9 hk (rd s' B a w ac aq) h2
     refine aE K2 Q fun u w' hb hrel az=>?_
     have an:Keep qe w w':=Keep.of_below' hb (Nat.le_refl _)
     refine ar u w' an (E.trans an) ?_
     rw [B.2,qp] at hrel
     refine⟨hrel.mono (fun b o h=>?_) (fun _ _ _ _ h=>h) (Nat.le_refl _) fun _ _=>rfl,az _ _ (nw s' B a w ac aq)⟩
     rcases h with h | h
     ·exact h
     ·exact ab b o (Nat.le_trans ac.size h)
    have yes:∀ s',EqS s' (zy s0 A)->(k.q P s' fun p=>p.own=none/\zf P r K (s'.put C.dst p))->∀ U:∀ V:VP,headOk qe (xC P Q) a0 w0 (fun w=>Keep qe w0 w) (qq (zB a0) w0.heap.size D ρ s0.b.length A) C V->stepOk qe (xC P Q) a0 w0 (fun w=>Keep qe w0 w) (qq (zB a0) w0.heap.size D ρ s0.b.length A) C V,
     walkG qe (xC P Q) a0 w0 (fun w=>Keep qe w0 w) F (C::l) (qq (zB a0) w0.heap.size D ρ s0.b.length A):=fun s' B N U=>by
     obtain⟨p,H,h2,h3⟩:=run s' B N
     exact⟨_,fun u w w' h hk=>⟨h.1.nob hk,h.2.mono (Nat.le_refl _) fun k ay=>hk.block k ay fun h=>h⟩,U _ h2,next s' p B H h3⟩
    have no:∀ s',EqS s' (zy s0 A)->zf P r K (s'.put C.dst (.v undef))->∀ U:stepOk qe (xC P Q) a0 w0 (fun w=>Keep qe w0 w) (qq (zB a0) w0.heap.size D ρ s0.b.length A) C (fun u _=>u=undef),
     walkG qe (xC P Q) a0 w0 (fun w=>Keep qe w0 w) F (C::l) (qq (zB a0) w0.heap.size D ρ s0.b.length A):=fun s' B N U=>by
     have hV:VN (zB a0) w0.heap.size D ρ s0.b.length (.v undef)=fun(u:Value) (_:World)=>u=undef:=by
      funext u w
      exact propext ⟨fun h=>h.1.v_inv,fun h=>by subst h;exact⟨.dat (.v _),trivial⟩⟩
     have:=next s' (.v undef) B rfl N
     rw [hV] at this
     exact⟨_,fun u w w' h hk=>h,U,this⟩
    split at E
    ·rename_i hg
     cases E
     exact yes s' B T fun V hV=>by unfold stepOk;rw [hg];exact hV
    ·rename_i j b hg
     simp only [Option.bind_eq_some_iff] at E
     obtain⟨t,ht,E⟩:=E
     split at E
     ·rename_i htn
      cases E
      obtain⟨am,_,_⟩:=aw j b hg
      have aj:∃ p,(qq (zB a0) w0.heap.size D ρ s0.b.length A)[j]? = some (some t,VN (zB a0) w0.heap.size D ρ s0.b.length p)/\(zy s0 A).get t=p:=by
       have L:=List.getElem?_eq_getElem am
       have ai:=hd j _ L
       rw [ht] at ai
       have hm:A[j]=(some t,A[j].2):=Prod.ext ai rfl
       refine⟨A[j].2,by unfold qq;rw [List.getElem?_map,L,hm];rfl,?_⟩
       rcases kZ (x0:=zB a0) (n0:=w0.heap.size) (D:=D) (ρ:=ρ) (nb:=s0.b.length) (t:=t) A s0 hdd with⟨p,S,_,e2⟩ | ⟨e1,_⟩
       ·obtain⟨j',M⟩:=List.getElem?_of_mem S
        have aF:=(List.getElem?_eq_some_iff.1 M).1
        obtain⟨oj,aA,_,_,au,_⟩:=yb J (show j<nh by omega)
        have:j'=j:=(au t (by have:=ht;unfold zJ at this;rw [aA] at this;exact this)).2 j' (by omega) (hd j' _ M).symm
        subst this
        rw [L] at M
        simp only [Option.some.injEq] at M
        rw [e2,M]
       ·exfalso
        have ao:(some t,A[j].2) ∈ A:=by rw [<-hm];exact List.getElem_mem am
        exact JS A _ ao e1
      obtain⟨p,S,Y⟩:=aj
      simp only [zf,PI.guard] at T
      split at T
      ·rename_i c e
       rw [B.1,Y] at e
       subst e
       by_cases af:c=b
       ·subst af
        refine yes _ (B.fix Y) (T.1 rfl) fun V hV=>?_
        unfold stepOk
        rw [hg]
        refine .inl ⟨?_,hV⟩
        unfold isV;rw [S];exact fun u w h=>h.1.v_inv
       ·have O:=ZT af
        refine no _ (B.fix (by rw [Y,O])) (T.2 O) ?_
        unfold stepOk
        rw [hg]
        refine .inr ⟨.inl ?_,rfl⟩
        unfold isV;rw [S]
        intro u w h
        rw [<-O];exact h.1.v_inv
      ·rename_i vs e
       rw [B.1,Y] at e
       subst e
       obtain⟨rfl,T⟩:=T
       refine no s' B T ?_
       unfold stepOk
       rw [hg]
       refine .inr ⟨.inr ?_,rfl⟩
       unfold isV;rw [S]
       exact fun u w h=>h.1.v_inv
      ·exact T.elim
     ·cases E
   ·cases E
def klS (s:PS) (keep:List Nat):PS:=⟨keep.map fun j=>(j,s.get j),[]⟩
theorem kV (s:PS) (t:Nat):∀ keep:List Nat,(klS s keep).get t=if t ∈ keep then s.get t else .und
 | []=>rfl
 | j::l=>by
   have ih:=kV s t l
   show yr ((j,s.get j)::l.map fun j=>(j,s.get j)) t=_
   by_cases e:j=t
   ·subst e;simp [yr]
   ·have a:¬ t=j:=fun h=>e h.symm
    simp only [yr,if_neg e,List.mem_cons,a,false_or]
    exact ih
theorem R.kl {n:Nat} {s:PS} {x E:Nat->Value} (h:R B g s x w) (keep:List Nat) (A:∀ j ∈ keep,x4 n (s.get j)) (F:∀ j ∈ keep,E j=x j):R B g (klS s keep) E w:=by
 have hs:∀ u p,zQ g (klS s keep) E w u p->p.own≠none->zQ g s x w u p:=fun u p a ho=>by
  rcases a with⟨t,rfl,rfl⟩ | ⟨i,j,H,I,_⟩
  ·rw [kV] at ho ⊢
   split at ho
   ·rename_i hm;rw [if_pos hm];exact .inl ⟨t,F t hm,rfl⟩
   ·exact absurd rfl ho
  ·simp [klS] at I
 refine⟨fun t=>?_,fun i H hi=>by simp [klS] at hi,fun i j hi=>by simp [klS] at hi,fun u p a=>?_,fun u p M L b J K C G=>h.disj u p M L b (hs _ _ J C) (hs _ _ K G) C G,fun u p b i k C b1 hi=>by simp [klS] at hi,h.dlt,fun i hi=>by simp [klS] at hi,h.fr⟩
 ·rw [kV]
  split
  ·rename_i hm
   rw [F t hm]
   have hrel:=h.slots t
   have y:=A t hm
   have:(s.get t).isD=true:=by
    revert y
    cases s.get t<;>intro h<;>first | rfl | exact h.elim
   exact .dat (hrel.data this)
  ·exact .dat (.und _)
 ·by_cases ho:p.own=none
  ·exact zr ho
  ·exact h.owns _ _ (hs _ _ a ho)
theorem ze1 {fr:Prop} {o:Oper} {x y:Operand} {t e:TypeId} {T:TypeInfo} {z:Value} {G:World} {Y:Act} {H bp C:List (List PV)} {n i len E d:Nat} {k:Ow} {keep:List Nat} {ad:Option Addr} {D2:Nat->Nat->Prop} {x0:Nat->Value}
 (aX:fr) (bz:fr->∀ k,¬ B.Sb k) (h:R B g s x0 w) (hb:Below w.heap.size w G) (hA:ApOp P o x y t e T z) (bj:Y.eval x=.slice ad H.length E) (bE:Rel D2 ρ nb G (Y.eval y) (.sl C k)) (aN:s.get i=.sl bp (.r n T.size)) (p1:x0 i=.slice ad len E)
 (hrx:Rel D2 ρ nb G (.slice ad H.length E) (.sl H (.p i))) (f1:qK H) (f2:qK C) (f3:∀ e ∈ H,e.length=T.size) (f4:∀ e ∈ C,e.length=T.size) (f5:(H.length+C.length) * T.bytes<=140737488355328) (f6:C≠[])
 (bD:keep.Pairwise fun i j=>(s.get i).own=none\/(s.get i).own≠(s.get j).own) (aP:∀ j ∈ keep,x4 n (s.get j)) (am:∀ j ∈ keep,zB Y j=x0 j) :
 ∃ g2 w2 u,(execOp Y.eval o).run P G=.ok (.value u) w2/\R B g2 ⟨(d,.sl (H++C) (.r n T.size))::keep.map (fun j=>(j,s.get j)),[]⟩ (QO (zB Y) (some d) u) w2:=by
 obtain⟨bO,bH,vs,e1,c1,c2,_,r1,g1⟩:=x5 (sz:=T.size) hrx f3
 injection e1 with q1 q2 q3
 subst q1
 subst q3
 obtain⟨bN,aB,X,e2,d1,d2,_,r2,g2⟩:=x5 bE f4
 obtain⟨b',bl,rfl,g3⟩:=g2 f6
 have bL:0<C.length:=List.length_pos_iff.2 f6
 have aL:H++C≠[]:=fun e=>f6 (List.append_eq_nil_iff.1 e).2
 have an:qK (H++C):=fun e he=>by
  rcases List.mem_append.1 he with he | he
  ·exact f1 e he
  ·exact f2 e he
 have aE:∀ j v,X[j]? = some v->G.cell? ((⟨b',bl,none⟩:Addr).add j)=some v:=fun j v hv=>by rw [zh];exact(g3 j v hv).2
 have aF:H.length≠0->∃ b,ad=some b/\∀ j v,vs[j]? = some v->G.cell? (b.add j)=some v:=fun hn=>by
  obtain⟨b,bW,rfl,g4⟩:=g1 (by intro e;subst e;simp at hn)
  exact⟨_,rfl,fun j v hv=>by rw [zh];exact(g4 j v hv).2⟩
 have K:=h.kl keep aP am
 have aq:=h.owns _ _ (h.slot i)
 have aO:=h.slot i
 rw [aN] at aq
 rw [p1] at aq
 have grow:E<H.length+C.length->(ad=none->E=0)->∃ g2 w2 u,(execOp Y.eval o).run P G=.ok (.value u) w2/\R B g2 ⟨(d,.sl (H++C) (.r n T.size))::keep.map (fun j=>(j,s.get j)),[]⟩ (QO (zB Y) (some d) u) w2:=fun aT be=>by
  obtain⟨cp,cs,hr,k1,k2,k3,k4⟩:=yJ (P:=P) (w:=G) (ty:=o.type) (c:=aB) hA.ht hA.hi hA.hz hA.hzs hA.hb r1.1 r2.1 aF be aE aT f5
  obtain⟨g5,hR⟩:=K.fresh (n0:=n) (hb.trans ((qk G (.cells cs e)).mono hb.size)) (g':=G.heap.size) hb.size (World.alloc_heap_new G.drew (.cells cs e)) (kj (r1.append r2) an) k4 (by simpa using k1) k2 k3 aL (some d)
  rw [List.length_append] at hR
  exact⟨g5,_,_,hA.run bj e2 hr,hR⟩
 rcases aq with⟨bP,hz,bK⟩ | ⟨F,bI,ab,e',hu,hW,hh,aU,bS,bU⟩
 ·injection hz with bm bG aR
  exact grow (by omega) fun _=>aR
 ·injection hu with bm bG aR
  subst bm
  subst aR
  by_cases ae:H.length+C.length<=E
  ·have aJ:F<w.heap.size:=(Array.getElem?_eq_some_iff.1 hh).1
   have av:G.heap[F]? = some (.cells ab e' (0,0)):=(hb.block F aJ).trans hh
   have aW:H.length * T.size+X.length<=ab.size:=by rw [r2.1,aU,<-Nat.add_mul];exact Nat.mul_le_mul_right _ ae
   have hr:=vm (P:=P) (w:=G) (ty:=o.type) (c:=aB) hA.ht hA.hi av r2.1 aE (Xv r2) ae aW
   obtain⟨new,aM⟩:∃ new,(ab.toList.take (H.length * T.size)++X++ab.toList.drop (H.length * T.size+X.length)).toArray=new:=⟨_,rfl⟩
   rw [aM] at hr
   have bi:vs.length=H.length * T.size:=r1.1
   have ak:E≠0:=by omega
   have aS:zc (x0 i)=some F:=by
    rw [p1]
    cases E with
    | zero=>exact absurd rfl ak
    | succ c=>rfl
   have bf:new.size=E * T.size:=by rw [<-aU,<-aM];simp;omega
   have bh:∀ j,j<(vs++X).length->new[j]? = some ((vs++X).getD j undef):=fun j Z=>by
    have ht:(ab.toList.take (H.length * T.size)).length=H.length * T.size:=by simp;omega
    rw [<-aM]
    simp only [List.getElem?_toArray]
    rw [List.length_append] at Z
    rw [List.getD_eq_getElem?_getD,List.append_assoc]
    by_cases I:j<H.length * T.size
    ·have ao:j<vs.length:=by omega
     obtain⟨b,eb,bt⟩:=aF (by intro e;rw [e] at I;omega)
     cases eb
     have:=bt j _ (List.getElem?_eq_getElem ao)
     rw [zh] at this
     simp only [World.cell?,av,Nat.zero_add] at this
     rw [List.getElem?_append_left (by omega),List.getElem?_take,if_pos I,List.getElem?_append_left ao,List.getElem?_eq_getElem ao]
     simpa using this
    ·rw [List.getElem?_append_right (by omega),ht,List.getElem?_append_left (by omega),List.getElem?_append_right (by omega),bi]
     have ao:j - H.length * T.size<X.length:=by omega
     rw [List.getElem?_eq_getElem ao]
     rfl
   have br:=bz aX
   have aj:∀ b,B.W b->B.w0.heap.size<=b:=fun b hb=>hb.resolve_right (br b)
   -- another owner's slice lies elsewhere
   have ag:∀ j,j ∈ keep->(klS s keep).get j=s.get j:=fun j Z=>by rw [kV,if_pos Z]
   have au:∀ j,((klS s keep).get j).own≠none->j ∈ keep:=fun j ho=>by
    rw [kV] at ho
    split at ho
    ·assumption
    ·exact absurd rfl ho
   have aA:∀ j,((klS s keep).get j).own≠none->zc (zB Y j)≠some F:=fun j ho e=>by
    have Z:=au j ho
    have I:=h.disj _ _ _ _ F (h.slot j) aO (by rw [<-ag j Z];exact ho) (by rw [aN];simp [PV.own]) (by rw [<-am j Z];exact e) aS
    rw [aN] at I
    have L:=aP j Z
    revert I L
    cases s.get j<;>intro I L<;>try cases I
    rename_i es1 ow
    cases ow<;>try cases I
    exact L.1 rfl
   have aQ:∀ j j',((klS s keep).get j).own≠none->((klS s keep).get j').own≠none->((klS s keep).get j).own=((klS s keep).get j').own->j=j':=fun j j' I L h3=>by
    have Z:=au j I
    have aZ:=au j' L
    rw [ag j Z] at I h3
    rw [ag j' aZ] at L h3
    rcases Nat.lt_trichotomy j j' with aJ | bw | aJ
    all_goals first | exact bw | skip
    all_goals
     exfalso
     obtain⟨m1,bb⟩:=List.getElem?_of_mem Z
     obtain⟨m2,aK⟩:=List.getElem?_of_mem aZ
     have ax:=(List.getElem?_eq_some_iff.1 bb)
     have ay:=(List.getElem?_eq_some_iff.1 aK)
     have hp:=List.pairwise_iff_getElem.1 bD
     rcases Nat.lt_trichotomy m1 m2 with hm | hm | hm
     ·have:=hp m1 m2 ax.1 ay.1 hm
      rw [ax.2,ay.2] at this
      rcases this with h | h
      ·exact I h
      ·exact h h3
     ·subst hm;rw [bb] at aK;cases aK;omega
     ·have:=hp m2 m1 ay.1 ax.1 hm
      rw [ax.2,ay.2] at this
      rcases this with h | h
      ·exact L h
      ·exact h h3.symm
   have N:∀ k,k<w.heap.size->k≠F->(G.setRow F new).heap[k]? = w.heap[k]?:=fun k hk aL=>(setRow_other G _ _ new aL).trans (hb.block k hk)
   -- what is read from now on
   obtain⟨D3,ac⟩:∃ D3:Nat->Nat->Prop,D3=fun b o=>B.D0 b o\/(b=F/\o<(vs++X).length)\/∃(j:Nat) (e4:List (List PV)) (sz m:Nat),(klS s keep).get j=.sl e4 (.r m sz)/\zc (zB Y j)=some b/\o<e4.length * sz:=⟨_,rfl⟩
   have az:∀ u p,zQ ⟨D3,g.ρ⟩ (klS s keep) (zB Y) (G.setRow F new) u p->∃ j,u=zB Y j/\p=(klS s keep).get j:=fun u p hp=>by
    rcases hp with hp | ⟨i,j,cs,I,_⟩
    ·exact hp
    ·simp [klS] at I
   have O:∀ j,yW g.D B.W w (zB Y j) ((klS s keep).get j):=fun j=>K.owns _ _ (K.slot j)
   have bq:R B ⟨D3,g.ρ⟩ (klS s keep) (zB Y) (G.setRow F new):=by
    refine⟨fun j=>?_,fun i cs hi=>by simp [klS] at hi,fun i j hi=>by simp [klS] at hi,fun u p hp=>?_,fun u p u' p' b I L o1 o2 b1 b2=>?_,fun u p b i _ _ _ hi=>by simp [klS] at hi,fun b o U=>?_,fun i hi=>by simp [klS] at hi,?_⟩
    ·have hrel:=K.slots j
     by_cases Z:j ∈ keep
     ·have L:=aP j Z
      rw [<-ag j Z] at L
      have ho:=O j
      have V:=aA j
      have Q:∀(e4:List (List PV)) (sz m:Nat),(klS s keep).get j=.sl e4 (.r m sz)->∀ b,zc (zB Y j)=some b->∀ o,o<e4.length * sz->D3 b o:=fun e4 sz m I b L o h3=>by rw [ac];exact .inr (.inr ⟨j,e4,sz,m,I,L,h3⟩)
      revert L ho hrel V Q
      cases (klS s keep).get j<;>intro hrel L ho V Q<;>try exact L.elim
      ·rw [hrel.v_inv];exact .dat (.v _)
      ·rename_i e4 ow
       cases ow<;>try exact L.elim
       rename_i m sz
       obtain⟨_,hf,bB⟩:=L
       rcases ho with⟨bn,hz,rfl⟩ | ⟨g4,M,ai,e5,S,aG,ah,aC,aD,bc⟩
       ·rw [hz]
        exact .dat (.sl bn 0 1 [] _ 0 0 (fun _=>undef) (Nat.le_refl _) (fun h=>by cases h) (Nat.zero_le _) (fun h=>absurd rfl h) (fun i e h=>by simp at h) (fun j h=>absurd h (by simp)) (fun i e j p h=>by simp at h))
       ·obtain⟨bQ,bJ,bY,e6,c5,c6,_,r5,g5⟩:=x5 hrel bB
        rw [S] at e6
        injection e6 with t1 t2 t3
        subst t1
        subst t3
        by_cases aI:e4=[]
        ·subst aI
         rw [S]
         exact .dat (.sl _ M 1 [] _ 0 0 (fun _=>undef) (Nat.zero_le _) (fun h=>by cases h) c6 (fun h=>absurd rfl h) (fun i e h=>by simp at h) (fun j h=>absurd h (by simp)) (fun i e j p h=>by simp at h))
        ·obtain⟨b5,bM,e7,g6⟩:=g5 aI
         injection e7 with e7
         injection e7 with e8 e9
         subst e8
         subst e9
         have aH:M≠0:=by
          have:=List.length_pos_iff.2 aI
          omega
         have J:zc (zB Y j)=some g4:=by
          rw [S]
          cases M with
          | zero=>exact absurd rfl aH
          | succ c=>rfl
         have af:g4≠F:=fun e=>V (by simp [PV.own]) (by rw [J,e])
         have bA:(G.setRow F new).heap[g4]? = some (.cells ai e5 (0,0)):=(N g4 (Array.getElem?_eq_some_iff.1 ah).1 af).trans ah
         rw [S]
         refine .dat (jr (k:=.r m sz) (kj r5 hf) bA (fun jj aw=>?_) c5 c6 (fun h=>by cases h) fun jj aw=>Q e4 sz m rfl g4 J jj (by rw [<-r5.1];exact aw))
         have:=(g6 jj _ (List.getElem?_eq_getElem aw)).2
         simp only [World.cell?,ah,Nat.zero_add] at this
         rw [List.getD_eq_getElem?_getD,List.getElem?_eq_getElem aw]
         simpa using this
     ·rw [kV,if_neg Z];exact .dat (.und _)
    ·obtain⟨j,rfl,rfl⟩:=az u p hp
     by_cases ho:((klS s keep).get j).own=none
     ·exact zr ho
     ·have ba:=O j
      have V:=aA j ho
      have ar:=aQ j
      have aY:∃ q,(klS s keep).get j=q:=⟨_,rfl⟩
      obtain⟨q,hq⟩:=aY
      rw [hq] at ho ba ar ⊢
      cases q<;>try trivial
      rename_i e4 ow
      cases ow<;>try trivial
      rename_i m sz
      rcases ba with hn | ⟨g4,M,ai,e5,S,aG,ah,aC,aD,bc⟩
      ·exact .inl hn
      ·cases M with
       | zero=>
         have hrel:=K.slots j
         rw [hq,S] at hrel
         have:=QH hrel
         exact .inl ⟨_,by rw [S,show e4.length=0 by omega],List.eq_nil_of_length_eq_zero (by omega)⟩
       | succ M=>
         have J:zc (zB Y j)=some g4:=by rw [S];rfl
         have af:g4≠F:=fun e=>V (by rw [J,e])
         refine .inr ⟨g4,_,ai,e5,S,aG,(N g4 (Array.getElem?_eq_some_iff.1 ah).1 af).trans ah,aC,aD,fun oo bC U=>?_⟩
         rw [ac] at U
         rcases U with U | ⟨U,_⟩ | ⟨j',e6,bX,m6,t1,t2,t3⟩
         ·have:=h.fr.d0lt _ _ U
          have:=aj g4 aG
          omega
         ·exact af U
         ·have bu:=K.disj _ _ _ _ g4 (K.slot j) (K.slot j') (by rw [hq];simp [PV.own]) (by rw [t1];simp [PV.own]) J t2
          have:=ar j' (by simp [PV.own]) (by rw [t1];simp [PV.own]) (by rw [<-hq];exact bu)
          subst this
          rw [hq] at t1
          injection t1 with t4 t5
          subst t4
          injection t5 with t6 t7
          subst t7
          omega
    ·obtain⟨j,rfl,rfl⟩:=az u p I
     obtain⟨j',rfl,rfl⟩:=az u' p' L
     exact K.disj _ _ _ _ b (K.slot j) (K.slot j') o1 o2 b1 b2
    ·have bF:(G.setRow F new).heap.size=G.heap.size:=by simp
     show b<(G.setRow F new).heap.size
     rw [bF]
     have A:D3 b o:=U
     rw [ac] at A
     have bR:=hb.size
     rcases A with A | ⟨rfl,_⟩ | ⟨j,e4,sz,m,t1,t2,t3⟩
     ·have:=h.fr.d0lt _ _ A
      have:=h.fr.size
      omega
     ·omega
     ·have:=(zX (O j) (by rw [t1];simp [PV.own]) t2).1
      omega
    ·have f:=h.fr
     have bT:=aj F hW
     refine⟨hb.os.trans f.os,hb.tape.trans f.tape,hb.output.trans f.output,by simpa using Nat.le_trans f.size hb.size,fun kk hk hn=>?_,fun b o U=>by rw [ac];exact .inl U,fun b o y U hy=>?_,fun b o U=>?_,f.d0lt⟩
     ·rw [N kk (Nat.lt_of_lt_of_le hk f.size) (by omega)]
      exact f.block kk hk hn
     ·have I:=f.cell b o y U hy
      have L:=f.d0lt b o U
      rw [World.cell?_of_block (a:=⟨b,o,none⟩) (N b (qF I) (show b≠F by omega))]
      exact I
     ·have A:D3 b o:=U
      rw [ac] at A
      rcases A with A | ⟨rfl,_⟩ | ⟨j,e4,sz,m,t1,t2,t3⟩
      ·exact .inl A
      ·exact .inr hW
      ·exact .inr (zX (O j) (by rw [t1];simp [PV.own]) t2).2
   have aV:Dat D3 (G.setRow F new) (.slice (some ⟨F,0,none⟩) (H++C).length E) (.sl (H++C) (.r n T.size)):=
    jr (k:=.r n T.size) (kj (r1.append r2) an) (setRow_heap G F ab new e' (0,0) av) bh (by simpa using ae) c2 (fun h=>by cases h) fun j Z=>by rw [ac];exact .inr (.inl ⟨rfl,Z⟩)
   have bg:=bq.put (some d) (.dat aV) fun _=>⟨.inr ⟨F,E,new,e',rfl,hW,setRow_heap G F ab new e' (0,0) av,bf,fun e he=>?_,fun oo bC U=>?_⟩,fun v q b I L h3 h4=>?_,fun b i _ hi=>by simp [klS] at hi⟩
   ·refine⟨⟨D3,g.ρ⟩,G.setRow F new,.slice (some ⟨F,0,none⟩) (H++C).length E,?_,bg⟩
    rw [List.length_append]
    exact hA.run bj e2 hr
   ·rcases List.mem_append.1 he with he | he
    ·exact f3 e he
    ·exact f4 e he
   ·have A:D3 F oo:=U
    rw [ac] at A
    rcases A with A | ⟨_,A⟩ | ⟨j,e4,sz,m,t1,t2,t3⟩
    ·have:=h.fr.d0lt _ _ A
     have:=aj F hW
     omega
    ·rw [List.length_append,bi,r2.1,<-Nat.add_mul,<-List.length_append] at A
     omega
    ·exact aA j (by rw [t1];simp [PV.own]) t2
   ·exfalso
    obtain⟨j,rfl,rfl⟩:=az v q I
    refine aA j L ?_
    rw [h3]
    cases E with
    | zero=>exact absurd rfl ak
    | succ c=>simp [zc] at h4;rw [h4]
  ·exact grow (by omega) fun h=>by cases h
theorem jd {y:Array Oper}:∀ {l:List Oper} {is:List PI},zI P nt y l=some is->is.length=l.length/\∀(j:Nat) o,l[j]? = some o->∃ i,is[j]? = some i/\i.d=o.dst
 | [],is,h=>by cases h;exact⟨rfl,fun j o h=>by simp at h⟩
 | o::l,is,h=>by
   simp only [zI,Option.bind_eq_some_iff] at h
   obtain⟨k,hk,r,E,h⟩:=h
   obtain⟨A,B⟩:=jd E
   have w:∃ a:PI,is=a::r/\a.d=o.dst:=by
    split at h
    ·split at h
     ·cases h;exact⟨_,rfl,rfl⟩
     ·simp only [Option.bind_eq_some_iff] at h
      obtain⟨t,_,h⟩:=h
      split at h
      ·cases h;exact⟨_,rfl,rfl⟩
      ·cases h
    ·cases h
   obtain⟨a,rfl,C⟩:=w
   refine⟨by simp [A],fun j F u=>?_⟩
   cases j with
   | zero=>simp at u;subst u;exact⟨a,rfl,C⟩
   | succ j=>simpa using B j F (by simpa using u)
theorem qz {l:List Oper}:∀(n:Nat) (a:List Oper) (is:List PI),zI P nt l.toArray a=some is->n<=a.length->zI P nt l.toArray (a.take n)=some (is.take n)/\zI P nt l.toArray (a.drop n)=some (is.drop n):=by
 intro n
 induction n with
 | zero=>intro a is h _;exact⟨by simp [zI],by simpa using h⟩
 | succ n ih=>
   intro a is h u
   cases a with
   | nil=>simp at u
   | cons o a=>
     simp only [zI,Option.bind_eq_some_iff] at h
     obtain⟨k,hk,r,w,h⟩:=h
     obtain⟨e1,e2⟩:=ih a r w (by simpa using u)
     simp only [List.take_succ_cons,List.drop_succ_cons,zI,hk,Option.bind_some,e1]
     split at h
     ·rename_i hd
      rw [if_pos hd]
      split at h
      ·cases h
       exact⟨rfl,e2⟩
      ·rename_i j b hg
       simp only [Option.bind_eq_some_iff] at h
       obtain⟨t,ht,h⟩:=h
       split at h
       ·rename_i htn
        cases h
        exact⟨by simp [ht,htn],e2⟩
       ·cases h
     ·cases h
theorem zd2 {l:List Oper} {Q:Exit->Act->World->Prop} (y nt:Nat) (C:World->Prop) (E:(xk l.toArray y nt && yK l.toArray y)=true) (F:a.tmps.size=nt) (H:C w.drew)
 (h:walkG qe (fun o a w K=>o.wp P a w K Q) a w.drew C (fun a w=>wpList P l.toArray Q (l.drop y) a w) (l.take y) []):wpAny P .any l.toArray Q l.toArray.size (Array.replicate l.toArray.size false) a w.drew:=by
 rw [Bool.and_eq_true] at E
 refine gready (ops:=l.toArray) (a0:=a) (w0:=w.drew) (C:=C) rfl (fun o a w K=>o.wp P a w K Q) (wpOp P l.toArray Q) (wpAny P .any l.toArray Q) (fun a w=>Q .normal a w) (fun k a w=>wpList P l.toArray Q (l.drop k) a w)
  ?_ (fun i K I a w hk hs=>wpOp_mono hk hs) (fun j a w A B=>⟨A,B⟩) (fun G j a w A B=>⟨A,B⟩) ?_ ?_ E.1 E.2 F H h
 ·intro i o K a w ho hs
  unfold wpOp
  simp only [ho]
  split
  ·rename_i hw;rw [if_pos hw] at hs;exact .inl hs
  ·rename_i hw;rw [if_neg hw] at hs;exact hs
 ·intro k a w hk ht
  have u:k<l.length:=by simpa using hk
  simp only [List.drop_eq_getElem_cons u,wpList] at ht
  unfold wpOp
  simp only [List.getElem?_toArray,List.getElem?_eq_getElem u]
  exact ht
 ·intro a w ht
  simpa [wpList] using ht
theorem zcI {fr:Prop} (aR:fr->∀ k,¬ B.Sb k) {l:List Oper} {is:List PI} {C:Nat} {Q:PX->PS->Prop} (aH:∀ t,(s.get t).isN=false) (hc:zI P nt l.toArray l=some is) (hB:(xk l.toArray C nt && yK l.toArray C)=true) (hq:zf P (is.take C) (qZ P fr (is.take C) s (is.drop C) (Q .n)) s) (h:RA B nt g s a w) :
 wpAny P .any l.toArray (QL B nt Q) l.toArray.size (Array.replicate l.toArray.size false) a w.drew:=by
 have ao:=(Bool.and_eq_true _ _).mp hB
 have aY:C<=l.length:=by
  have:=ao.1
  unfold xk at this
  simp only [Bool.and_eq_true,decide_eq_true_eq] at this
  simpa using this.1
 -- the two halves
 obtain⟨af,A⟩:=qz C l is hc aY
 have bb:w.drew.heap.size=w.heap.size:=rfl
 have O:∀ H,Keep qe w.drew H->∀ b o x,g.D b o->w.cell? ⟨b,o,none⟩=some x->H.cell? ⟨b,o,none⟩=some x:=fun H hk b o x _ hx=>qa (qu hk) (show b<w.drew.heap.size from qF hx) hx
 refine zd2 C nt (fun H=>Keep qe w.drew H) hB h.2.2 (Keep.refl _ _) ?_
 have:=Z8 (P:=P) (D:=fun b o=>g.D b o\/w.heap.size<=b) (ρ:=g.ρ) (Q:=QL B nt Q) (F:=fun a w=>wpList P l.toArray (QL B nt Q) (l.drop C) a w) (s0:=s) (a0:=a) (w0:=w.drew) (nh:=C) ao.1 (K:=qZ P fr (is.take C) s (is.drop C) (Q .n))
  (fun H hk t=>(h.1.slots t).mono (fun _ _ h=>.inl h) (O H hk) (Nat.le_refl _) fun _ _=>rfl)
  (fun H hk i cs hi=>by
    obtain⟨_,vs,e,hv,hz,hb⟩:=h.1.boxes i cs hi
    have aB:g.ρ i<w.drew.heap.size:=h.1.ρlt (List.getElem?_eq_some_iff.1 hi).1
    exact⟨vs,e,(hk.block _ aB fun h=>h).trans hv,hz,fun j p hp=>⟨(hb j p hp).1.mono (fun _ _ h=>.inl h) (O H hk) (Nat.le_refl _) fun _ _=>rfl,(hb j p hp).2⟩⟩)
  (fun H hk=>h.1.gl.mono (fun _ _ h=>.inl h) (O H hk))
  (fun b o hb=>.inr hb) aH
  (fun ps H hk hdd hln hds hown aB ⟨s',hE,M⟩=>by
    have hb:=qu hk
    have hg:R B ⟨fun b o=>(g.D b o\/w.heap.size<=b)/\b<H.heap.size,g.ρ⟩ s (zB a) H:=h.1.drew.grow hb _ (fun b o hD=>⟨.inl hD,Nat.lt_of_lt_of_le (h.1.dlt b o hD) hb.size⟩) (fun b o hD=>hD.1) (fun b o hD=>hD.2)
    refine kS ps s a hdd hown aB (fun b o hD=>hD) ⟨hg,h.2⟩ rfl fun E G aq ac=>?_
    have ae:ze P (is.drop C) (Q .n) s'->wpList P l.toArray (QL B nt Q) (l.drop C) E H:=fun M=>z5 _ _ _ _ E H A M (G.eqS hE)
    unfold qZ at M
    split at M
    ·rename_i d x y sz by_ t' ht'
     split at M
     ·rename_i es sz' hx
      obtain⟨rfl,an,M⟩:=M
      obtain⟨aF,k,ey,f1,f2,f3,f4,f5,f6,f7⟩:=y8 M
      -- the append
      cases hl:l.drop C with
      | nil=>rw [hl] at A;rw [ht'] at A;cases A
      | cons o l'=>
        rw [hl,ht'] at A
        simp only [zI,Option.bind_eq_some_iff] at A
        obtain⟨k0,aA,r,hr,A⟩:=A
        split at A
        ·rename_i hdk
         have ay:o.guard=none/\o.dst=some d/\k0=.ap (.t x) y sz' by_/\r=t':=by
          split at A
          ·rename_i S
           simp only [Option.some.injEq,List.cons.injEq,PI.mk.injEq] at A
           exact⟨S,A.1.1,A.1.2.2,A.2⟩
          ·simp only [Option.bind_eq_some_iff] at A
           obtain⟨t,_,A⟩:=A
           split at A
           ·simp only [Option.some.injEq,List.cons.injEq,PI.mk.injEq] at A
            cases A.1.2.1
           ·cases A
         obtain⟨S,T,rfl,rfl⟩:=ay
         obtain⟨x1,x2,t,e,i,z0,hA,V,am,rfl,rfl⟩:=vo aA
         have aD:x1=.tmp x:=by cases x1<;>first | (cases V;rfl) | cases V
         have aw:E.eval x1=zB E x:=by rw [aD];rfl
         have J:=G.eqS hE
         have U:=J.1.slots x
         rw [hx] at U
         have ab:=Xk (a:=E) am fun t _=>J.1.slots t
         rw [ey] at ab
         have hN:NewOk (zB a) w.heap.size H (zB E x) (.sl es (.n i.size)):=by
          have ah:(zy s ps).get x=.sl es (.n i.size):=by rw [<-hE.1];exact hx
          rcases kZ (x0:=zB a) (n0:=w.heap.size) (D:=g.D) (ρ:=g.ρ) (nb:=s.b.length) (t:=x) ps s hdd with⟨p,aC,_,e2⟩ | ⟨e1,e2⟩
          ·rw [ah] at e2;subst e2;exact aq x _ aC
          ·exfalso
           obtain⟨i0,aS,au⟩:=List.any_eq_true.1 an
           have au:i0.d=some x:=by simpa using au
           obtain⟨j,Y⟩:=List.getElem?_of_mem aS
           obtain⟨m1,m2⟩:=jd af
           have I:j<(l.take C).length:=by rw [<-m1];exact(List.getElem?_eq_some_iff.1 Y).1
           obtain⟨i1,ai,aI⟩:=m2 j _ (List.getElem?_eq_getElem I)
           rw [Y] at ai
           cases ai
           have ak:j<ps.length:=by rw [hln];simp at I;omega
           have L:=hds j _ (List.getElem?_eq_getElem ak)
           have N:j<l.length:=by simp at I;omega
           have e4:(l.take C)[j]'I=l[j]:=by simp
           rw [e4,au] at aI
           have e5:ps[j].1=some x:=by
            rw [L];unfold zJ;simp [N,<-aI]
           exact JS (x0:=zB a) (n0:=w.heap.size) (D:=g.D) (ρ:=g.ρ) (nb:=s.b.length) ps ps[j].2 (by rw [<-e5];exact List.getElem_mem ak) e1
         rw [<-aw] at U hN
         obtain⟨g',aE,cs,e',vs,w2,Z,q1,q2,q3,q4,q5,q6,q7,q8⟩:=zmh hA U hN ab hb.size f3 f4 f5 f6
         unfold wpList
         rw [if_pos (by simp [Region.wanted,S])]
         refine .inl ?_
         show o.upon P E (wpList P l.toArray (QL B nt Q) l') (QL B nt Q) ((execOp E.eval o).run P H)
         rw [Z]
         have ag:∀ t,o.dst=some t->t<E.tmps.size:=fun t ht=>by
          rw [ht] at hdk
          rw [G.2.2];simpa [vd] using hdk
         have ax:qK (es++aF):=fun e he=>by
          rcases List.mem_append.1 he with he | he
          ·exact f1 e he
          ·exact f2 e he
         have aG:Below w.drew.heap.size w.drew w2:=hb.trans q2
         have aJ:R B g (qI (is.take C) s) (zB E) w.drew:=h.1.drew.forget fun t ht=>ac t fun y hy e=>by
          obtain⟨j,Y⟩:=List.getElem?_of_mem hy
          have ak:j<C:=by have:=(List.getElem?_eq_some_iff.1 Y).1;omega
          have L:=hds j y Y
          rw [e] at L
          obtain⟨m1,m2⟩:=jd af
          have I:j<(l.take C).length:=by simp;omega
          have h3:=m2 j _ (List.getElem?_eq_getElem I)
          obtain⟨i',az,aj⟩:=h3
          refine ht i' (List.mem_of_getElem? az) ?_
          rw [aj]
          unfold zJ at L
          have N:j<l.length:=by omega
          have:(l.take C)[j]'I=l[j]:=by simp
          rw [this]
          simpa [N] using L.symm
         obtain⟨g2,ar⟩:=aJ.fresh (n0:=d) aG (g':=g') q1 q3 (kj q7 ax) q8 q4 q5 q6 (fun e=>f6 (List.append_eq_nil_iff.1 e).2) (some d)
         refine z5 l' r _ g2 _ w2 hr f7 ⟨?_,by rw [(zD _ _ _).2];exact G.2.1,by rw [(zD _ _ _).1];exact G.2.2⟩
         rw [zN ag,T]
         exact ar
        ·cases A
     ·rename_i es i hx
      obtain⟨aK,an,M⟩:=M
      split at M
      ·rename_i es0 n sz' hsi
       obtain⟨rfl,M⟩:=M
       obtain⟨aF,k,ey,f3,f4,f5,f6,hQ⟩:=y8 M
       cases hl:l.drop C with
       | nil=>rw [hl] at A;rw [ht'] at A;cases A
       | cons o l'=>
         rw [hl,ht'] at A
         simp only [zI,Option.bind_eq_some_iff] at A
         obtain⟨k0,aA,r,hr,A⟩:=A
         split at A
         ·rename_i hdk
          have ay:o.guard=none/\o.dst=some d/\k0=.ap (.t x) y sz' by_/\r=t':=by
           split at A
           ·rename_i S
            simp only [Option.some.injEq,List.cons.injEq,PI.mk.injEq] at A
            exact⟨S,A.1.1,A.1.2.2,A.2⟩
           ·simp only [Option.bind_eq_some_iff] at A
            obtain⟨t,_,A⟩:=A
            split at A
            ·simp only [Option.some.injEq,List.cons.injEq,PI.mk.injEq] at A
             cases A.1.2.1
            ·cases A
          obtain⟨S,T,rfl,rfl⟩:=ay
          obtain⟨x1,x2,t,e,ti,z0,hA,V,am,rfl,rfl⟩:=vo aA
          have aD:x1=.tmp x:=by cases x1<;>first | (cases V;rfl) | cases V
          have aw:E.eval x1=zB E x:=by rw [aD];rfl
          have J:=G.eqS hE
          have U:=J.1.slots x
          rw [hx] at U
          have ab:=Xk (a:=E) am fun t _=>J.1.slots t
          rw [ey] at ab
          have hN:NewOk (zB a) w.heap.size H (zB E x) (.sl es (.p i)):=by
           have ah:(zy s ps).get x=.sl es (.p i):=by rw [<-hE.1];exact hx
           rcases kZ (x0:=zB a) (n0:=w.heap.size) (D:=g.D) (ρ:=g.ρ) (nb:=s.b.length) (t:=x) ps s hdd with⟨p,aC,_,e2⟩ | ⟨e1,e2⟩
           ·rw [ah] at e2;subst e2;exact aq x _ aC
           ·rw [ah] at e2
            have:=aH x
            rw [<-e2] at this;cases this
          obtain⟨ad,len,ba,p1,p2⟩:=hN
          have X:∀ j,((is.take C).all fun y=>!(y.d == some j))=true->zB E j=zB a j:=fun j h3=>ac j fun y hy e=>by
           obtain⟨jj,aL⟩:=List.getElem?_of_mem hy
           have L:=hds jj y aL
           rw [e] at L
           obtain⟨m1,m2⟩:=jd af
           have ak:jj<C:=by have:=(List.getElem?_eq_some_iff.1 aL).1;omega
           have I:jj<(l.take C).length:=by simp;omega
           obtain⟨i',az,aj⟩:=m2 jj _ (List.getElem?_eq_getElem I)
           rw [List.all_eq_true] at h3
           have h4:=h3 i' (List.mem_of_getElem? az)
           unfold zJ at L
           have N:jj<l.length:=by omega
           have e4:(l.take C)[jj]'I=l[jj]:=by simp
           rw [e4] at aj
           rw [aj] at h4
           have:l[jj].dst=some j:=by simpa [N] using L.symm
           rw [this] at h4
           simp at h4
          have ag:∀ t,o.dst=some t->t<E.tmps.size:=fun t ht=>by
           rw [ht] at hdk
           rw [G.2.2];simpa [vd] using hdk
          unfold wpList
          rw [if_pos (by simp [Region.wanted,S])]
          refine .inl ?_
          rcases hQ with⟨⟨f1,f2⟩,keep,f7,f8⟩ | ⟨ai,aT,aU,aV,aW⟩
          ·have av:∀ j ∈ keep,zB E j=zB a j:=fun j Y=>X j (f7.1 j Y).1
           obtain⟨g2,w2,u,Z,ar⟩:=ze1 aK aR (d:=d) h.1.drew hb hA (aw.trans p2) ab hsi p1 (hrx:=p2 ▸ U) f1 f2 f3 f4 f5 f6 f7.2 (fun j Y=>(f7.1 j Y).2) av
           show o.upon P E (wpList P l.toArray (QL B nt Q) l') (QL B nt Q) ((execOp E.eval o).run P H)
           rw [Z]
           refine z5 l' r _ g2 _ w2 hr f8 ⟨?_,by rw [(zD _ _ _).2];exact G.2.1,by rw [(zD _ _ _).1];exact G.2.2⟩
           rw [zN ag,T]
           exact ar
          ·subst aU
           have aP:zB E x=zB E i:=by
            have aM:=h.1.slots i
            rw [hsi] at aM
            obtain⟨aZ,aE,_,_,_,_,q1,_⟩:=aM.inv_sl
            rw [X i ai,p2,q1]
            rw [p1] at q1
            injection q1 with q2 q3 q4
            rw [q2,q4]
           have aQ:R B ⟨fun b o=>(g.D b o\/w.heap.size<=b)/\b<H.heap.size,g.ρ⟩ (s'.put (some x) (.sl es0 (.r n ti.size))) (zB E) H:=by
            have aO:=J.1.slots i
            have aN:=J.1.slot i
            rw [aT,hsi] at aO aN
            have:=J.1.put (some x) aO (J.1.ownNew aN)
            rwa [show QO (zB E) (some x) (zB E i)=zB E from by
             funext t
             unfold QO
             split
             ·rename_i e;cases e;exact aP.symm
             ·rfl] at this
           refine zgN (K:=ze P r (Q .n)) ag aQ hA V am (zF _ _ _) (aV.trans ey) f4 f5 (by rw [T];exact aW) _ _ fun s3 g3 u w3 hk hR=>?_
           exact z5 l' r _ g3 _ w3 hr hk ⟨hR,by rw [(zD _ _ _).2];exact G.2.1,by rw [(zD _ _ _).1];exact G.2.2⟩
         ·cases A
      ·exact M.elim
     ·exact ae M
    ·exact ae M)
  (l.take C) (is.take C) [] s (EqS.refl _) af (by simp;omega) (fun j Y=>by
    have aX:j<C:=by simp at Y;omega
    simp [List.getElem?_take,aX]) (fun j x h=>by simp at h) List.Pairwise.nil (by simp) hq
 simpa [qq] using this
abbrev GW:=List Nat × World
instance instGW:Pl.Kpo GW where
 kp x y:=Keep qe x.2 y.2/\(∀ b ∈ x.1,b ∈ y.1)/\∀ b ∈ y.1,b ∈ x.1\/x.2.heap.size<=b
 refl w:=⟨Keep.refl _ _,fun _ h=>h,fun _ h=>.inl h⟩
 trans a b c h k:=⟨h.1.trans k.1,fun x hx=>k.2.1 x (h.2.1 x hx),fun x hx=>by
  rcases k.2.2 x hx with h' | h'
  ·exact h.2.2 x h'
  ·exact .inr (Nat.le_trans h.1.size h')⟩
def J1 (P:Program) (Q:Exit->Act->World->Prop):Oper->Act->GW->(Act->GW->Prop)->Prop:=fun o a S K=>o.wp P a S.2 (fun u w=>∃ j,K u (j,w)) Q
def CG (w0:World):GW->Prop:=fun S=>Keep qe w0 S.2/\∀ b ∈ S.1,w0.heap.size<=b/\b<S.2.heap.size
def VG (D:Nat->Nat->Prop) (ρ:Nat->Nat) (nb:Nat) (p:PV):Pl.VP GW:=fun u S=>Rel (fun b o=>D b o/\b ∉ S.1) ρ nb S.2 u p
def qw (D:Nat->Nat->Prop) (ρ:Nat->Nat) (nb:Nat) (a:List (Option Nat × PV)):List (Option Tmp × Pl.VP GW):=a.map fun y=>(y.1,VG D ρ nb y.2)
theorem VG.stab {p:PV} {u:Value} {S j:GW} (h:VG D ρ nb p u S) (k:Pl.Kpo.kp S j):VG D ρ nb p u j:=
 (Rel.restrict h).mono (fun b o a=>⟨a.1.1,fun A=>(k.2.2 b A).elim a.1.2 fun y=>Nat.not_le.2 a.2 y⟩) (fun b o x _ w=>qa (qu k.1) (qF w) w) (Nat.le_refl _) fun _ _=>rfl
theorem za2 (a:List (Option Nat × PV)) (d:Option Nat) (p:PV):qw D ρ nb (a++[(d,p)])=qw D ρ nb a++[(d,VG D ρ nb p)]:=by simp [qw]
theorem jk {t:Nat}:∀(a:List (Option Nat × PV)) (s:PS),ke a->(∃ p,(some t,p) ∈ a/\Pl.lk (qw D ρ nb a) t=some (VG D ρ nb p)/\(zy s a).get t=p)\/(Pl.lk (qw D ρ nb a) t=none/\(zy s a).get t=s.get t)
 | [],s,_=>.inr ⟨rfl,rfl⟩
 | (d,p)::a,s,h=>by
   have w:=List.pairwise_cons.1 h
   by_cases e:d=some t
   ·subst e
    refine .inl ⟨p,by simp,by simp [qw,Pl.lk],?_⟩
    rw [show zy s ((some t,p)::a)=zy (s.put (some t) p) a from rfl,qt]
    ·exact zF s t p
    ·intro x B e
     rcases w.1 x B with j | j
     ·cases j
     ·exact j e.symm
   ·rcases jk (t:=t) a (s.put d p) w.2 with⟨q,j,u,A⟩ | ⟨j,u⟩
    ·exact .inl ⟨q,by simp [j],by simpa [qw,Pl.lk,e] using u,A⟩
    ·refine .inr ⟨by simpa [qw,Pl.lk,e] using j,?_⟩
     rw [show zy s ((d,p)::a)=zy (s.put d p) a from rfl,u]
     cases d with
     | none=>rfl
     | some d=>exact zV s p fun y=>e (by rw [y])
theorem ZP {t:Nat}:∀(a:List (Option Nat × PV)) (p:PV),(some t,p) ∈ a->Pl.lk (qw D ρ nb a) t≠none
 | y::a,p,h=>by
   by_cases e:y.1=some t
   ·simp [qw,Pl.lk,e]
   ·rcases List.mem_cons.1 h with h | h
    ·rw [<-h] at e;exact absurd rfl e
    ·have:=ZP a p h
     simpa [qw,Pl.lk,e] using this
theorem ki {F:Act->GW->Prop} {S:GW} {w:List (Option Tmp × Pl.VP GW)}:∀(j:List (Option Tmp × Pl.VP GW)) (a:Act),Pl.finG (fun a S=>Pl.finG F S w a) S j a->Pl.finG F S (j++w) a
 | [],a,h=>h
 | (none,_)::r,a,h=>ki r a h
 | (some _,_)::r,a,h=>fun u y=>ki r _ (h u y)
theorem yL {S:GW} {F:Act->GW->Prop} {E:Nat->Nat->Prop}:∀(w:List (Option Nat × PV)) (s:PS) (a:Act),ke w->(∀ x ∈ w,x.2.own=none)->(∀ x ∈ w,∀ d,x.1=some d->d<nt)->(∀ b o,((D b o/\b ∉ S.1)/\b<S.2.heap.size)->E b o)->RA B nt ⟨E,ρ⟩ s a S.2->s.b.length=nb ->
 (∀ y,RA B nt ⟨E,ρ⟩ (zy s w) y S.2->(∀ t,(∀ x ∈ w,x.1≠some t)->zB y t=zB a t)->F y S)->Pl.finG F S (qw D ρ nb w) a
 | [],s,a,_,_,_,_,h,_,hF=>hF a h fun _ _=>rfl
 | (none,p)::w,s,a,h0,h1,h2,h3,h,hb,hF=>yL w s a (List.pairwise_cons.1 h0).2 (fun x j=>h1 x (by simp [j])) (fun x j=>h2 x (by simp [j])) h3 h hb fun y I J=>hF y I (fun t ht=>J t fun x j=>ht x (by simp [j]))
 | (some d,p)::w,s,a,h0,h1,h2,h3,h,hb,hF=>by
   intro u M
   have K:=h2 (some d,p) (by simp) d rfl
   have A:=List.pairwise_cons.1 h0
   have G:d<a.tmps.size:=by rw [h.2.2];exact K
   have C:zB (a.put (some d) u)=QO (zB a) (some d) u:=zN (by intro t ht;cases ht;exact G)
   have L:∀ x ∈ w,x.1≠some d:=fun x j e=>by
    rcases A.1 x j with h | h
    ·cases h
    ·exact h e.symm
   refine yL w (s.put (some d) p) _ A.2 (fun x j=>h1 x (by simp [j])) (fun x j=>h2 x (by simp [j])) h3 ⟨?_,by rw [(zD _ _ _).2];exact h.2.1,by rw [(zD _ _ _).1];exact h.2.2⟩ (by rw [zaq];exact hb) fun y I J=>hF y I fun t ht=>?_
   ·rw [C]
    have H:Rel (fun b o=>D b o/\b ∉ S.1) ρ nb S.2 u p:=M
    refine h.1.put (some d) ?_ (.none (h1 (some d,p) (by simp)))
    rw [hb]
    exact H.restrict.mono h3 (fun _ _ _ _ h=>h) (Nat.le_refl _) fun _ _=>rfl
   ·rw [J t fun x j=>ht x (by simp [j]),C]
    exact QP _ _ fun e=>ht (some d,p) (by simp) (by rw [e])
theorem yp {U:Array Oper} {Q:Exit->Act->World->Prop} {E:List (Option Tmp × Pl.VP GW)->Prop} {s0:PS} {a0:Act} {w0:World} {nh nh':Nat} (aw:nh<=nh') (H:Pl.ChkR U nh' nt) {l2:List Oper} {K:PS->Prop}
 (h0:∀ S,CG w0 S->∀ t,Rel (fun b o=>D b o/\b ∉ S.1) ρ s0.b.length S.2 (a0.tmps.getD t undef) (s0.get t)) (Z:∀ S,CG w0 S->∀(i:Nat) cs,s0.b[i]? = some cs->zaA ⟨fun b o=>D b o/\b ∉ S.1,ρ⟩ s0.b.length S.2 i cs) (am:∀ S,CG w0 S->GL (fun b o=>D b o/\b ∉ S.1) S.2) (ab:∀ b o,w0.heap.size<=b->D b o)
 (hF:∀ A,ke A->A.length=nh->(∀(j:Nat) x,A[j]? = some x->x.1=zJ U j)->(∀ x ∈ A,x.2.own=none)->(∀ x ∈ A,∀ d,x.1=some d->d<nt)->(∃ s',EqS s' (zy s0 A)/\K s')->Pl.walkE (J1 P Q) a0 ([],w0) (CG w0) E l2 (qw D ρ s0.b.length A)) :
 ∀(l:List Oper) (is:List PI) (A:List (Option Nat × PV)) (s':PS),EqS s' (zy s0 A)->zI P nt U l=some is->A.length+l.length=nh->(∀ j,j<l.length->U[A.length+j]? = l[j]?)->(∀(j:Nat) x,A[j]? = some x->x.1=zJ U j)->ke A->(∀ x ∈ A,x.2.own=none) ->
  zf P is K s'->Pl.walkE (J1 P Q) a0 ([],w0) (CG w0) E (l++l2) (qw D ρ s0.b.length A)
 | [],is,A,s',B,C,hl,ho,hd,hdd,hown,O=>by
   cases C
   refine hF A hdd (by simpa using hl) hd hown (fun x I d af=>?_) ⟨s',B,O⟩
   obtain⟨j,G⟩:=List.getElem?_of_mem I
   have aE:j<nh:=by have:=(List.getElem?_eq_some_iff.1 G).1;simp at hl;omega
   obtain⟨o,ho,_,_,h3⟩:=H j (show j<nh' by omega)
   have:=hd j x G
   rw [af] at this
   unfold zJ at this
   rw [ho] at this
   exact(h3 d this.symm).1
 | o::l,is,A,s',B,C,hl,ho,hd,hdd,hown,O=>by
   simp only [zI,Option.bind_eq_some_iff] at C
   obtain⟨k,hk,r,hr,C⟩:=C
   split at C
   ·rename_i hdk
    simp only [List.length_cons] at hl
    have hi:A.length<nh:=by omega
    obtain⟨F,ae,_,av,au⟩:=H A.length (show A.length<nh' by omega)
    have ay:F=o:=by
     have:=ho 0 (by simp)
     simp only [Nat.add_zero,List.getElem?_cons_zero] at this
     rw [this] at ae
     exact(Option.some.inj ae).symm
    subst ay
    -- going on
    have next:∀(s':PS) (p:PV),EqS s' (zy s0 A)->p.own=none->zf P r K (s'.put F.dst p)->Pl.walkE (J1 P Q) a0 ([],w0) (CG w0) E (l++l2) (qw D ρ s0.b.length A++[(F.dst,VG D ρ s0.b.length p)]):=fun s' p B hp az=>by
     rw [<-za2]
     refine yp aw H h0 Z am ab hF l r (A++[(F.dst,p)]) (s'.put F.dst p) (by rw [YK];exact B.put _ _) hr (by simp;omega) (fun j G=>?_) (fun j x G=>?_) ?_ (fun x I=>?_) az
     ·have:=ho (j+1) (by simpa using G)
      simp only [List.getElem?_cons_succ] at this
      rw [<-this]
      congr 1
      simp;omega
     ·rcases Nat.lt_or_ge j A.length with h' | h'
      ·rw [List.getElem?_append_left h'] at G;exact hd j x G
      ·rw [List.getElem?_append_right h'] at G
       have e:j - A.length=0:=by have:=(List.getElem?_eq_some_iff.1 G).1;simp at this;omega
       rw [e] at G
       simp at G
       subst G
       have:j=A.length:=by omega
       subst this
       unfold zJ;rw [ae];rfl
     ·refine List.pairwise_append.2 ⟨hdd,by simp,fun x I y hy=>?_⟩
      simp at hy
      subst hy
      obtain⟨j,G⟩:=List.getElem?_of_mem I
      cases af:x.1 with
      | none=>exact .inl rfl
      | some d=>
        refine .inr fun e=>?_
        have aD:=(List.getElem?_eq_some_iff.1 G).1
        have:=(au d e.symm).2 j (by omega) ((hd j x G).symm.trans af)
        omega
     ·rcases List.mem_append.1 I with I | I
      ·exact hown x I
      ·simp at I;subst I;exact hp
    -- what is read
    have rd:∀ s',EqS s' (zy s0 A)->∀ a S,CG w0 S->Pl.Rds (qw D ρ s0.b.length A) a0 (zA F) a S->Rd (fun b o=>D b o/\b ∉ S.1) ρ s' (zB a) (zA F) S.2:=fun s' B a S hw ac=>by
     refine⟨fun t ht=>?_,fun i cs ai=>?_,am _ hw⟩
     ·rw [B.2,qp,B.1]
      revert ht
      generalize zA F=ts at ac ⊢
      induction ts with
      | nil=>intro ht;cases ht
      | cons t' ts ih=>
        intro ht
        obtain⟨X,h2⟩:=ac
        rcases List.mem_cons.1 ht with rfl | ht
        ·rcases jk (D:=D) (ρ:=ρ) (nb:=s0.b.length) (t:=t) A s0 hdd with⟨p,_,e1,e2⟩ | ⟨e1,e2⟩
         ·rw [e1] at X
          obtain⟨u,hu,hv⟩:=X
          rw [e2]
          have:zB a t=u:=hu.2.1
          rw [this];exact hv
         ·rw [e1] at X
          rw [e2]
          have:zB a t=a0.tmps.getD t undef:=X.2.1
          rw [this];exact h0 S hw t
        ·exact ih h2 ht
     ·rw [B.2,qp] at ai ⊢
      exact Z S hw i cs ai
    have run:∀ s',EqS s' (zy s0 A)->(k.q P s' fun p=>p.own=none/\zf P r K (s'.put F.dst p))->∃ p:PV,p.own=none/\Pl.headOk (J1 P Q) a0 ([],w0) (CG w0) (qw D ρ s0.b.length A) F (VG D ρ s0.b.length p)/\zf P r K (s'.put F.dst p):=fun s' B L=>by
     obtain⟨p,X,h2⟩:=zat k _ L
     obtain⟨hp,X⟩:=X
     refine⟨p,hp,?_,X⟩
     intro a S C aF aB K2 aq
     obtain⟨p',rfl,_,aA⟩:=y9 hk (rd s' B a S C aB) h2
     refine aA (fun a' w'=>∃ F',K2 a' (F',w')) Q fun u w' hb hrel _=>⟨S.1,?_⟩
     have ad:Keep qe S.2 w':=Keep.of_below' hb (Nat.le_refl _)
     refine aq u (S.1,w') ⟨ad,fun _ h=>h,fun _ h=>.inl h⟩ ⟨C.1.trans ad,fun b ag=>⟨(C.2 b ag).1,Nat.lt_of_lt_of_le (C.2 b ag).2 ad.size⟩⟩ ?_
     rw [B.2,qp] at hrel
     refine Rel.mono hrel (fun b o h=>?_) (fun _ _ _ _ h=>h) (Nat.le_refl _) fun _ _=>rfl
     rcases h with h | h
     ·exact h
     ·exact⟨ab b o (Nat.le_trans C.1.size h),fun hm=>by have:=(C.2 b hm).2;omega⟩
    have yes:∀ s',EqS s' (zy s0 A)->(k.q P s' fun p=>p.own=none/\zf P r K (s'.put F.dst p))->∀ T:∀ V:Pl.VP GW,Pl.headOk (J1 P Q) a0 ([],w0) (CG w0) (qw D ρ s0.b.length A) F V->Pl.stepOk (J1 P Q) a0 ([],w0) (CG w0) (qw D ρ s0.b.length A) F V,
     Pl.walkE (J1 P Q) a0 ([],w0) (CG w0) E (F::(l++l2)) (qw D ρ s0.b.length A):=fun s' B L T=>by
     obtain⟨p,X,h2,h3⟩:=run s' B L
     exact⟨VG D ρ s0.b.length p,fun u w w' h hk=>VG.stab h hk,T _ h2,next s' p B X h3⟩
    have no:∀ s',EqS s' (zy s0 A)->zf P r K (s'.put F.dst (.v undef))->∀ T:Pl.stepOk (J1 P Q) a0 ([],w0) (CG w0) (qw D ρ s0.b.length A) F (fun u _=>u=undef),
     Pl.walkE (J1 P Q) a0 ([],w0) (CG w0) E (F::(l++l2)) (qw D ρ s0.b.length A):=fun s' B L T=>by
     have hV:VG D ρ s0.b.length (.v undef)=fun(u:Value) (_:GW)=>u=undef:=by
      funext u w
      exact propext ⟨fun h=>Rel.v_inv h,fun h=>by subst h;exact .dat (.v _)⟩
     have:=next s' (.v undef) B rfl L
     rw [hV] at this
     exact⟨_,fun u w w' h hk=>h,T,this⟩
    split at C
    ·rename_i hg
     cases C
     exact yes s' B O fun V hV=>by unfold Pl.stepOk;rw [hg];exact hV
    ·rename_i j b hg
     simp only [Option.bind_eq_some_iff] at C
     obtain⟨t,ht,C⟩:=C
     split at C
     ·rename_i htn
      cases C
      obtain⟨an,_,_⟩:=av j b hg
      have ak:∃ p,(qw D ρ s0.b.length A)[j]? = some (some t,VG D ρ s0.b.length p)/\(zy s0 A).get t=p:=by
       have I:=List.getElem?_eq_getElem an
       have aj:=hd j _ I
       rw [ht] at aj
       have hm:A[j]=(some t,A[j].2):=Prod.ext aj rfl
       refine⟨A[j].2,by unfold qw;rw [List.getElem?_map,I,hm];rfl,?_⟩
       rcases jk (D:=D) (ρ:=ρ) (nb:=s0.b.length) (t:=t) A s0 hdd with⟨p,N,_,e2⟩ | ⟨e1,_⟩
       ·obtain⟨j',J⟩:=List.getElem?_of_mem N
        have aC:=(List.getElem?_eq_some_iff.1 J).1
        obtain⟨oj,ax,_,_,ar⟩:=H j (show j<nh' by omega)
        have:j'=j:=(ar t (by have:=ht;unfold zJ at this;rw [ax] at this;exact this)).2 j' (by omega) (hd j' _ J).symm
        subst this
        rw [I] at J
        simp only [Option.some.injEq] at J
        rw [e2,J]
       ·exfalso
        have ao:(some t,A[j].2) ∈ A:=by rw [<-hm];exact List.getElem_mem an
        exact ZP A _ ao e1
      obtain⟨p,N,Y⟩:=ak
      simp only [zf,PI.guard] at O
      split at O
      ·rename_i c e
       rw [B.1,Y] at e
       subst e
       by_cases ah:c=b
       ·subst ah
        refine yes _ (B.fix Y) (O.1 rfl) fun V hV=>?_
        unfold Pl.stepOk
        rw [hg]
        refine .inl ⟨?_,hV⟩
        unfold Pl.isV;rw [N];exact fun u w h=>Rel.v_inv h
       ·have M:=ZT ah
        refine no _ (B.fix (by rw [Y,M])) (O.2 M) ?_
        unfold Pl.stepOk
        rw [hg]
        refine .inr ⟨.inl ?_,rfl⟩
        unfold Pl.isV;rw [N]
        intro u w h
        rw [<-M];exact Rel.v_inv h
      ·rename_i vs e
       rw [B.1,Y] at e
       subst e
       obtain⟨rfl,O⟩:=O
       refine no s' B O ?_
       unfold Pl.stepOk
       rw [hg]
       refine .inr ⟨.inr ?_,rfl⟩
       unfold Pl.isV;rw [N]
       exact fun u w h=>Rel.v_inv h
      ·exact O.elim
     ·cases C
   ·cases C
def VA (a:Array Value) (e:TypeId):Pl.VP GW:=fun u S=>∃ b,b ∈ S.1/\u=.pointer (some ⟨b,0,none⟩)/\S.2.heap[b]? = some (.cells a e (0,0))
theorem VA.stab {j:Array Value} {e:TypeId} {u:Value} {S a:GW} (h:VA j e u S) (k:Pl.Kpo.kp S a):VA j e u a:=by
 obtain⟨b,w,y,A⟩:=h
 exact⟨b,k.2.1 b w,y,k.1.obj A fun h=>h⟩
theorem zaY {fr:Prop} {l:List Oper} {is t':List PI} {A d:Nat} {zs:List PV} {Q:PX->PS->Prop} (hc:zI P nt l.toArray l=some is) (ae:is.drop A=⟨some d,none,.al zs⟩::t') (hB:(xk l.toArray (A+1) nt && yK l.toArray (A+1))=true) (hq:zf P (is.take A) (qZ P fr (is.take A) s (is.drop A) (Q .n)) s) (h:RA B nt g s a w) :
 wpAny P .any l.toArray (QL B nt Q) l.toArray.size (Array.replicate l.toArray.size false) a w.drew:=by
 have L:=(Bool.and_eq_true _ _).mp hB
 have aA:A+1<=l.length:=by
  have:=L.1
  unfold xk at this
  simp only [Bool.and_eq_true,decide_eq_true_eq] at this
  simpa using this.1
 obtain⟨am,y⟩:=qz A l is hc (by omega)
 rw [List.drop_eq_getElem_cons (show A<l.length by omega),ae] at y
 obtain⟨o,ho⟩:∃ o,l[A]=o:=⟨_,rfl⟩
 rw [ho] at y
 simp only [zI,Option.bind_eq_some_iff] at y
 obtain⟨k,hk,r,hr,y⟩:=y
 have ao:vd nt o.dst=true/\o.guard=none/\o.dst=some d/\k=.al zs/\r=t':=by
  split at y
  ·rename_i T
   split at y
   ·rename_i Y
    simp only [Option.some.injEq,List.cons.injEq,PI.mk.injEq] at y
    exact⟨T,Y,y.1.1,y.1.2.2,y.2⟩
   ·simp only [Option.bind_eq_some_iff] at y
    obtain⟨t,_,y⟩:=y
    split at y
    ·simp only [Option.some.injEq,List.cons.injEq,PI.mk.injEq] at y
     cases y.1.2.1
    ·cases y
  ·cases y
 obtain⟨T,Y,U,rfl,rfl⟩:=ao
 obtain⟨e,au,hz⟩:=vo hk
 obtain⟨i,z,g1,g2,rfl,g4⟩:=qJ hz
 have ag:∀(a:Act) (w:World),(execOp a.eval o).run P w=.ok (.value (.pointer (some ⟨w.heap.size,0,none⟩))) (w.alloc (.cells z.cells e)):=fun a w=>by
  have ay:(zeroValue e).run P w=.ok z w:=by simp [zeroValue,typeInfo,g1,g2]
  simp [execOp,au,Instr.alloc,ay,newVar,newRow]
 have aB:w.drew.heap.size=w.heap.size:=rfl
 have M:∀ S:GW,CG w.drew S->∀ b,b<w.heap.size->b ∉ S.1:=fun S H b hb hm=>by have:=(H.2 b hm).1;omega
 have J:∀ w',Keep qe w.drew w'->∀ b o x,g.D b o->w.cell? ⟨b,o,none⟩=some x->w'.cell? ⟨b,o,none⟩=some x:=fun w' hk b o x _ hx=>qa (qu hk) (show b<w.drew.heap.size from qF hx) hx
 have V:Pl.walkG (J1 P (QL B nt Q)) a (([],w.drew):GW) (CG w.drew) (fun a S=>wpList P l.toArray (QL B nt Q) (l.drop (A+1)) a S.2) (l.take A++[o]) []:=by
  refine Pl.walkG_of _ _ ?_
  have:=yp (P:=P) (D:=fun b o=>g.D b o\/w.heap.size<=b) (ρ:=g.ρ) (Q:=QL B nt Q) (E:=fun ah=>∀ S,CG w.drew S->Pl.Kpo.kp (([],w.drew):GW) S->Pl.finG (fun a S=>wpList P l.toArray (QL B nt Q) (l.drop (A+1)) a S.2) S ah a) (s0:=s) (a0:=a) (w0:=w.drew) (nh:=A) (nh':=A+1) (Nat.le_succ _) (Pl.chkR_of L.1) (l2:=[o]) (K:=qZ P fr (is.take A) s (is.drop A) (Q .n))
   (fun S H t=>(h.1.slots t).mono (fun b o G=>⟨.inl G,M S H b (h.1.dlt b o G)⟩) (J S.2 H.1) (Nat.le_refl _) fun _ _=>rfl)
   (fun S H i cs hi=>by
     obtain⟨_,vs,e,hv,hz,hb⟩:=h.1.boxes i cs hi
     have ab:g.ρ i<w.drew.heap.size:=h.1.ρlt (List.getElem?_eq_some_iff.1 hi).1
     exact⟨vs,e,(H.1.block _ ab fun h=>h).trans hv,hz,fun j p hp=>⟨(hb j p hp).1.mono (fun b o G=>⟨.inl G,M S H b (h.1.dlt b o G)⟩) (J S.2 H.1) (Nat.le_refl _) fun _ _=>rfl,(hb j p hp).2⟩⟩)
   (fun S H=>h.1.gl.mono (fun b o G=>⟨.inl G,M S H b (h.1.dlt b o G)⟩) (J S.2 H.1)) (fun b o hb=>.inr hb)
   (fun ps hdd hln hds hown ab ⟨s',hE,hK⟩=>by
     refine⟨VA z.cells e,fun u S S' h hk=>VA.stab h hk,?_,fun S H _=>?_⟩
     ·unfold Pl.stepOk
      rw [Y]
      intro N S H _ _ K hK
      show o.upon P N (fun N w'=>∃ F',K N (F',w')) (QL B nt Q) ((execOp N.eval o).run P S.2)
      rw [ag]
      have Z:Keep qe S.2 (S.2.alloc (.cells z.cells e)):=(Keep.refl _ _).alloc _
      refine⟨S.2.heap.size::S.1,hK _ (S.2.heap.size::S.1,_) ⟨Z,fun b hb=>List.mem_cons_of_mem _ hb,fun b hb=>?_⟩ ⟨H.1.trans Z,fun b hb=>?_⟩ ⟨_,List.mem_cons_self,rfl,World.alloc_heap_new _ _⟩⟩
      ·rcases List.mem_cons.1 hb with rfl | hb
       ·exact .inr (Nat.le_refl _)
       ·exact .inl hb
      ·rcases List.mem_cons.1 hb with rfl | hb
       ·exact⟨H.1.size,by simp⟩
       ·exact⟨(H.2 b hb).1,Nat.lt_of_lt_of_le (H.2 b hb).2 Z.size⟩
     ·have hb:=qu H.1
      refine ki _ _ ?_
      have hg:R B ⟨fun b o=>((g.D b o\/w.heap.size<=b)/\b ∉ S.1)/\b<S.2.heap.size,g.ρ⟩ s (zB a) S.2:=h.1.drew.grow hb _ (fun b o G=>⟨⟨.inl G,M S H b (h.1.dlt b o G)⟩,Nat.lt_of_lt_of_le (h.1.dlt b o G) hb.size⟩) (fun b o G=>G.1.1) (fun b o G=>G.2)
      refine yL ps s a hdd hown ab (fun b o G=>G) ⟨hg,h.2⟩ rfl fun N O ac=>?_
      have aj:=O.eqS hE
      rw [U]
      intro u hu
      obtain⟨b,m1,rfl,m3⟩:=hu
      have ak:=(H.2 b m1).1
      rw [ae] at hK
      have ai:ze P r (Q .n) (PS.put ⟨s'.t,s'.b++[z.cells.toList.map Q6]⟩ (some d) (.bx s'.b.length 0)):=hK
      have ar:s'.b.length=s.b.length:=by rw [hE.2,qp]
      have X:=yT (D:=fun b o=>((g.D b o\/w.heap.size<=b)/\b ∉ S.1)/\b<S.2.heap.size) (w:=S.2) g4
      have ax:∀ u q,zQ ⟨fun b o=>((g.D b o\/w.heap.size<=b)/\b ∉ S.1)/\b<S.2.heap.size,g.ρ⟩ s' (zB N) S.2 u q->q.own≠none->zQ g s (zB a) w u q:=by
       rintro u q (⟨t,rfl,rfl⟩ | ⟨i,j,cs,q1,q2,q3⟩) ho
       ·rw [hE.1] at ho ⊢
        rcases jk (D:=g.D) (ρ:=g.ρ) (nb:=s.b.length) (t:=t) ps s hdd with⟨p,av,_,e2⟩ | ⟨e1,e2⟩
        ·rw [e2] at ho
         exact absurd (hown _ av) ho
        ·rw [e2]
         refine .inl ⟨t,ac t fun x hx e=>?_,rfl⟩
         exact ZP (D:=g.D) (ρ:=g.ρ) (nb:=s.b.length) ps x.2 (by rw [<-e];exact hx) e1
       ·rw [hE.2,qp] at q1
        refine .inr ⟨i,j,cs,q1,q2,?_⟩
        rw [<-q3]
        exact(hb.cell (p:=⟨g.ρ i,j,none⟩) (h.1.ρlt (List.getElem?_eq_some_iff.1 q1).1)).symm
      have ad:=aj.1.boxAt (some d) z.cells e (z.cells.toList.map Q6) X.1 m3 (.inl (Nat.le_trans h.1.fr.size ak)) (fun i hi e=>by
       rw [ar] at hi
       have:=h.1.ρlt hi
       have e':g.ρ i=b:=e
       omega) (fun o G=>G.1.2 m1) (fun u q hs ho e=>by
       have aw:=ax u q hs ho
       have:=(zX (h.1.owns u q aw) ho e).1
       omega) (fun i p hp=>⟨.dat (X.2 i p hp).1,(X.2 i p hp).2⟩) (fun p hp=>by
       obtain⟨v,_,rfl⟩:=List.mem_map.1 hp
       unfold Q6;split<;>rfl)
      have an:∀ t,some d=some t->t<N.tmps.size:=fun t ht=>by
       cases ht
       rw [U] at T
       rw [O.2.2];simpa [vd] using T
      rw [<-zN an] at ad
      exact z5 _ _ _ _ _ _ hr ai ⟨ad,by rw [(zD _ _ _).2];exact O.2.1,by rw [(zD _ _ _).1];exact O.2.2⟩)
   (l.take A) (is.take A) [] s (EqS.refl _) am (by simp;omega) (fun j hj=>by
     have aq:j<A:=by simp at hj;omega
     simp [List.getElem?_take,aq]) (fun j x h=>by simp at h) List.Pairwise.nil (by simp) hq
  simpa [qw] using this
 rw [<-ho,<-List.take_succ_eq_append_getElem (show A<l.length by omega)] at V
 refine Pl.gready (Ω:=GW) (ops:=l.toArray) (a0:=a) (w0:=([],w.drew)) (C:=CG w.drew) rfl (J1 P (QL B nt Q)) (fun i K a S=>wpOp P l.toArray (QL B nt Q) i (fun N w'=>∃ F',K N (F',w')) a S.2) (fun n I a S=>wpAny P .any l.toArray (QL B nt Q) n I a S.2) (fun a S=>QL B nt Q .normal a S.2) (fun k a S=>wpList P l.toArray (QL B nt Q) (l.drop k) a S.2)
  ?_ (fun i K K' a w hk hs=>wpOp_mono (fun a w ⟨F,h⟩=>⟨F,hk _ _ h⟩) hs) (fun I a w h1 h2=>⟨h1,h2⟩) (fun az I a w h1 h2=>⟨h1,fun i hi=>wpOp_mono (fun a w ⟨F,h⟩=>h) (h2 i hi)⟩) ?_ ?_ L.1 L.2 h.2.2 ⟨Keep.refl _ _,fun b hb=>by cases hb⟩ V
 ·intro i o K a S ho hs
  unfold wpOp
  simp only [ho]
  split
  ·rename_i hw;rw [if_pos hw] at hs;exact .inl hs
  ·rename_i hw;rw [if_neg hw] at hs;exact⟨S.1,hs⟩
 ·intro k a S hk ht
  have af:k<l.length:=by simpa using hk
  simp only [List.drop_eq_getElem_cons af,wpList] at ht
  unfold wpOp
  simp only [List.getElem?_toArray,List.getElem?_eq_getElem af]
  split
  ·rename_i hw
   rw [if_pos hw] at ht
   exact ht.imp (Oper.wp_mono fun a w h=>⟨[],h⟩) id
  ·rename_i hw
   rw [if_neg hw] at ht
   exact⟨[],ht⟩
 ·intro a w ht
  simpa [wpList] using ht
theorem zeR {a:Array Oper} {u nt:Nat} (h:zeQ a u nt=true):u+2<=a.size/\Pl.ChkR a (u+1) nt/\(∀ i,i<u->∃ j,j<=u+1/\i<j/\j≠u/\edge a j i=true)/\(u+2<a.size->edge a (u+2) u=true):=by
 unfold zeQ at h
 simp only [Bool.and_eq_true,List.all_eq_true,List.mem_range,decide_eq_true_eq,Bool.or_eq_true] at h
 obtain⟨⟨⟨C,E⟩,F⟩,G⟩:=h
 refine⟨C,fun i hi=>?_,fun i hi=>?_,fun M=>G.resolve_left (by omega)⟩
 ·have h:=E i hi
  cases ho:a[i]? with
  | none=>simp [ho] at h
  | some o=>
    simp only [ho,Bool.and_eq_true,List.all_eq_true] at h
    obtain⟨⟨N,w⟩,A⟩:=h
    refine⟨o,rfl,N,?_,?_⟩
    ·intro j b L
     simp only [L,Bool.and_eq_true,decide_eq_true_eq] at w
     exact⟨w.1.1,w.1.2,w.2⟩
    ·intro d K
     simp only [K,Bool.and_eq_true,decide_eq_true_eq,List.all_eq_true,List.mem_range,Bool.or_eq_true,Bool.not_eq_true',beq_eq_false_iff_ne] at A
     exact⟨A.1,fun j B e=>(A.2 j B).resolve_right fun y=>y e⟩
 ·have h:=F i hi
  simp only [List.any_eq_true,List.mem_range,Bool.and_eq_true,decide_eq_true_eq] at h
  obtain⟨j,B,⟨H,I⟩,J⟩:=h
  exact⟨j,by omega,H,I,J⟩
theorem xS (j:List PI) (K:PS->Prop):∀(a:List PI) (s:PS),zf P (a++j) K s=zf P a (zf P j K) s
 | [],s=>rfl
 | i::a,s=>by
   have e:zf P (a++j) K=zf P a (zf P j K):=funext fun s=>xS j K a s
   simp only [List.cons_append,zf,e]
theorem zfF {a:List (Option Tmp × Pl.VP GW)} {d t:Nat} {V:Pl.VP GW} (h:d≠t):Pl.lk (a++[(some d,V)]) t=Pl.lk a t:=by
 induction a with
 | nil=>simp [Pl.lk,h]
 | cons x a ih=>obtain⟨e,j⟩:=x;simp only [List.cons_append,Pl.lk,ih]
theorem VL {p:PV} {K j:List PV->Prop} (h:∀ u,K u->j u):qW p K->qW p j:=by
 cases p<;>intro a<;>first | exact h _ a | exact⟨a.1,h _ a.2⟩ | exact a.elim
theorem zax {s2 s3:PS} {x y:PO} {n:Nat} {K:PS->Prop} (j:s3.ev x=s2.ev x) (u:s3.ev y=s2.ev y) (hb:s3.b=s2.b) (h:PK.e P (.st x y n) none s3 K):PK.e P (.st x y n) none s2 fun a=>a.t=s2.t/\K ⟨s3.t,a.b⟩:=by
 simp only [PK.e,j,u,hb] at h ⊢
 split at h
 ·rename_i i o hb1
  split at h
  ·rename_i cs hcs
   exact VL (fun us h=>⟨h.1,h.2.1,rfl,h.2.2⟩) h
  ·exact h.elim
 ·exact h.elim
theorem JA {fr:Prop} {l:List Oper} {is t':List PI} {m d L i0 n0:Nat} {x0 xa xb:PO} {zs:List PV} {H:List PI} {Q:PX->PS->Prop} (hc:zI P nt l.toArray l=some is) (bn:is.drop m=⟨some d,none,.al zs⟩::⟨some L,none,.ex x0 i0⟩::⟨none,none,.st xa xb n0⟩::t')
 (hF:zeQ l.toArray (m+1) nt=true) (hT:yK l.toArray (m+2)=true) (aQ:d≠L) (bw:jY L xa=true) (bz:jY L xb=true) (aW:jY d x0=true) (bE:∀ o,l[m+1]? = some o->d ∉ zA o)
 (hq:zf P (is.take m++[⟨some L,none,.ex x0 i0⟩]) (qZ P fr H s (⟨some d,none,.al zs⟩::⟨none,none,.st xa xb n0⟩::t') (Q .n)) s) (h:RA B nt g s a w) :
 wpAny P .any l.toArray (QL B nt Q) l.toArray.size (Array.replicate l.toArray.size false) a w.drew:=by
 obtain⟨ba,hR,aE,aA⟩:=zeR hF
 simp only [List.size_toArray] at ba
 obtain⟨bl,A⟩:=qz m l is hc (by omega)
 rw [List.drop_eq_getElem_cons (show m<l.length by omega),List.drop_eq_getElem_cons (show m+1<l.length by omega),List.drop_eq_getElem_cons (show m+1+1<l.length by omega),bn] at A
 obtain⟨o,ho⟩:∃ o,l[m]=o:=⟨_,rfl⟩
 obtain⟨of,ah⟩:∃ o,l[m+1]=o:=⟨_,rfl⟩
 obtain⟨os,aG⟩:∃ o,l[m+1+1]=o:=⟨_,rfl⟩
 rw [ho,ah,aG] at A
 have one:∀ {o:Oper} {l':List Oper} {d:Option Nat} {k:PK} {t:List PI},zI P nt l.toArray (o::l')=some (⟨d,none,k⟩::t)->vd nt o.dst=true/\o.guard=none/\o.dst=d/\XR P o=some k/\zI P nt l.toArray l'=some t:=fun {o l' d k t} A=>by
  simp only [zI,Option.bind_eq_some_iff] at A
  obtain⟨k',hk,r,hr,A⟩:=A
  split at A
  ·rename_i ag
   split at A
   ·rename_i aC
    simp only [Option.some.injEq,List.cons.injEq,PI.mk.injEq] at A
    exact⟨ag,aC,A.1.1,by rw [<-A.1.2.2];exact hk,by rw [<-A.2];exact hr⟩
   ·simp only [Option.bind_eq_some_iff] at A
    obtain⟨t,_,A⟩:=A
    split at A
    ·simp only [Option.some.injEq,List.cons.injEq,PI.mk.injEq] at A
     cases A.1.2.1
    ·cases A
  ·cases A
 obtain⟨ag,aC,X,hk,bm⟩:=one A
 obtain⟨an,aR,M,aU,aO⟩:=one bm
 obtain⟨bK,br,U,bu,hr⟩:=one aO
 rw [xS] at hq
 obtain⟨e,bA,hz⟩:=vo hk
 obtain⟨i,z,g1,g2,rfl,g4⟩:=qJ hz
 have aZ:∀(a:Act) (w:World),(execOp a.eval o).run P w=.ok (.value (.pointer (some ⟨w.heap.size,0,none⟩))) (w.alloc (.cells z.cells e)):=fun a w=>by
  have bI:(zeroValue e).run P w=.ok z w:=by simp [zeroValue,typeInfo,g1,g2]
  simp [execOp,bA,Instr.alloc,bI,newVar,newRow]
 have bL:w.drew.heap.size=w.heap.size:=rfl
 have Y:∀ S:GW,CG w.drew S->∀ b,b<w.heap.size->b ∉ S.1:=fun S G b hb hm=>by have:=(G.2 b hm).1;omega
 have O:∀ Z,Keep qe w.drew Z->∀ b o x,g.D b o->w.cell? ⟨b,o,none⟩=some x->Z.cell? ⟨b,o,none⟩=some x:=fun Z hk b o x _ hx=>qa (qu hk) (show b<w.drew.heap.size from qF hx) hx
 have aV:∀ I:Act,I.tmps.size=nt->∀ t,some d=some t->t<I.tmps.size:=fun I ha t ht=>by
  cases ht
  rw [X] at ag
  rw [ha];simpa [vd] using ag
 have aq:∀ I:Act,I.tmps.size=nt->∀ t,some L=some t->t<I.tmps.size:=fun I ha t ht=>by
  cases ht
  rw [M] at an
  rw [ha];simpa [vd] using an
 have h0:∀ S:GW,CG w.drew S->∀ t,Rel (fun b o=>(g.D b o\/w.heap.size<=b)/\b ∉ S.1) g.ρ s.b.length S.2 (a.tmps.getD t undef) (s.get t):=fun S G t=>(h.1.slots t).mono (fun b o J=>⟨.inl J,Y S G b (h.1.dlt b o J)⟩) (O S.2 G.1) (Nat.le_refl _) fun _ _=>rfl
 have am:∀ S:GW,CG w.drew S->∀(i:Nat) cs,s.b[i]? = some cs->zaA ⟨fun b o=>(g.D b o\/w.heap.size<=b)/\b ∉ S.1,g.ρ⟩ s.b.length S.2 i cs:=fun S G i cs hi=>by
  obtain⟨_,vs,e,hv,hz,hb⟩:=h.1.boxes i cs hi
  have aF:g.ρ i<w.drew.heap.size:=h.1.ρlt (List.getElem?_eq_some_iff.1 hi).1
  exact⟨vs,e,(G.1.block _ aF fun h=>h).trans hv,hz,fun j p hp=>⟨(hb j p hp).1.mono (fun b o J=>⟨.inl J,Y S G b (h.1.dlt b o J)⟩) (O S.2 G.1) (Nat.le_refl _) fun _ _=>rfl,(hb j p hp).2⟩⟩
 have aS:∀ S:GW,CG w.drew S->GL (fun b o=>(g.D b o\/w.heap.size<=b)/\b ∉ S.1) S.2:=fun S G=>h.1.gl.mono (fun b o J=>⟨.inl J,Y S G b (h.1.dlt b o J)⟩) (O S.2 G.1)
 obtain⟨V,av⟩:∃ V:Nat->(Act->GW->Prop)->Act->GW->Prop,V=fun i K a S=>wpOp P l.toArray (QL B nt Q) i (fun I Z=>∃ F',K I (F',Z)) a S.2:=⟨_,rfl⟩
 obtain⟨T,az⟩:∃ T:Nat->Act->GW->Prop,T=fun k a S=>wpList P l.toArray (QL B nt Q) (l.drop k) a S.2:=⟨_,rfl⟩
 have ax:Pl.walkE (J1 P (QL B nt Q)) a (([],w.drew):GW) (CG w.drew) (fun ac=>(∀ S,CG w.drew S->Pl.Kpo.kp (([],w.drew):GW) S->Pl.finG (T (m+1+1)) S ac a)/\∀ S,CG w.drew S->Pl.Kpo.kp (([],w.drew):GW) S->Pl.finG (fun a S=>V (m+1+1) (fun a S=>V (m+1) (T (m+1+2)) a S) a S) S (ac.take (m+1)) a) (l.take m++[o,of]) []:=by
  have:=yp (P:=P) (D:=fun b o=>g.D b o\/w.heap.size<=b) (ρ:=g.ρ) (Q:=QL B nt Q) (E:=fun ac=>(∀ S,CG w.drew S->Pl.Kpo.kp (([],w.drew):GW) S->Pl.finG (T (m+1+1)) S ac a)/\∀ S,CG w.drew S->Pl.Kpo.kp (([],w.drew):GW) S->Pl.finG (fun a S=>V (m+1+1) (fun a S=>V (m+1) (T (m+1+2)) a S) a S) S (ac.take (m+1)) a) (s0:=s) (a0:=a) (w0:=w.drew) (nh:=m) (nh':=m+2) (by omega) hR (l2:=[o,of])
   (K:=zf P [⟨some L,none,.ex x0 i0⟩] (qZ P fr H s (⟨some d,none,.al (z.cells.toList.map Q6)⟩::⟨none,none,.st xa xb n0⟩::t') (Q .n)))
   h0 am aS (fun b o hb=>.inr hb)
   (fun ps hdd hln hds hown aF ⟨s',hE,hK⟩=>by
     have hK:PK.q P s' (.ex x0 i0) fun p=>p.own=none/\qZ P fr H s (⟨some d,none,.al (z.cells.toList.map Q6)⟩::⟨none,none,.st xa xb n0⟩::t') (Q .n) (s'.put (some L) p):=hK
     obtain⟨p,⟨bC,hK⟩,h2⟩:=zat (.ex x0 i0) _ hK
     have ao:s'.b.length=s.b.length:=by rw [hE.2,qp]
     obtain⟨s2,ai⟩:∃ s2,PS.put ⟨s'.t,s'.b++[z.cells.toList.map Q6]⟩ (some d) (.bx s'.b.length 0)=s2:=⟨_,rfl⟩
     obtain⟨s3,aH⟩:∃ s3,PS.put ⟨(s'.put (some L) p).t,s'.b++[z.cells.toList.map Q6]⟩ (some d) (.bx s'.b.length 0)=s3:=⟨_,rfl⟩
     have aJ:PK.e P (.st xa xb n0) none s3 (ze P t' (Q .n)):=by rw [<-aH];exact hK
     have ae:s2.t=(d,.bx s'.b.length 0)::s'.t:=by rw [<-ai];rfl
     have au:s3.t=(d,.bx s'.b.length 0)::(L,p)::s'.t:=by rw [<-aH];rfl
     have ar:s3.b=s2.b:=by rw [<-aH,<-ai];rfl
     have ak:∀ x,jY L x=true->s3.ev x=s2.ev x:=fun x hx=>by
      cases x with
      | t i=>
        simp only [jY,Bool.not_eq_true',beq_eq_false_iff_ne] at hx
        show yr s3.t i=yr s2.t i
        rw [au,ae]
        simp only [yr]
        rw [if_neg (fun e:L=i=>hx e.symm)]
      | c p=>rfl
      | f p=>rfl
     have aj:∀ b',EqS ⟨(L,p)::s2.t,b'⟩ ⟨s3.t,b'⟩:=fun b'=>by
      refine⟨fun t=>?_,rfl⟩
      show yr ((L,p)::s2.t) t=yr s3.t t
      rw [au,ae]
      simp only [yr]
      by_cases e1:L=t
      ·rw [if_pos e1,if_neg (fun e2=>aQ (e2.trans e1.symm)),if_pos e1]
      ·rw [if_neg e1,if_neg e1]
     -- at the end of the head,but for what floats
     have ab:∀ S:GW,CG w.drew S->∀(F:Act->GW->Prop) (l2:List (Option Tmp × Pl.VP GW)),(∀(a2:Act) (g2:Gh),RA B nt g2 s2 a2 S.2->(∀ u,VG (fun b o=>g.D b o\/w.heap.size<=b) g.ρ s.b.length p u S->Rel g2.D g2.ρ s2.b.length S.2 u p)->Pl.finG F S l2 a2)->Pl.finG F S (qw (fun b o=>g.D b o\/w.heap.size<=b) g.ρ s.b.length ps++((some d,VA z.cells e)::l2)) a:=fun S G F l2 hF=>by
      have hb:=qu G.1
      refine ki _ _ ?_
      have hg:R B ⟨fun b o=>((g.D b o\/w.heap.size<=b)/\b ∉ S.1)/\b<S.2.heap.size,g.ρ⟩ s (zB a) S.2:=h.1.drew.grow hb _ (fun b o J=>⟨⟨.inl J,Y S G b (h.1.dlt b o J)⟩,Nat.lt_of_lt_of_le (h.1.dlt b o J) hb.size⟩) (fun b o J=>J.1.1) (fun b o J=>J.2)
      refine yL ps s a hdd hown aF (fun b o J=>J) ⟨hg,h.2⟩ rfl fun I af aI=>?_
      have bi:=af.eqS hE
      intro u hu
      obtain⟨b,m1,rfl,m3⟩:=hu
      have bj:=(G.2 b m1).1
      have aB:=yT (D:=fun b o=>((g.D b o\/w.heap.size<=b)/\b ∉ S.1)/\b<S.2.heap.size) (w:=S.2) g4
      have bG:∀ u q,zQ ⟨fun b o=>((g.D b o\/w.heap.size<=b)/\b ∉ S.1)/\b<S.2.heap.size,g.ρ⟩ s' (zB I) S.2 u q->q.own≠none->zQ g s (zB a) w u q:=by
       rintro u q (⟨t,rfl,rfl⟩ | ⟨i,j,cs,q1,q2,q3⟩) ho
       ·rw [hE.1] at ho ⊢
        rcases jk (D:=g.D) (ρ:=g.ρ) (nb:=s.b.length) (t:=t) ps s hdd with⟨p,bB,_,e2⟩ | ⟨e1,e2⟩
        ·rw [e2] at ho
         exact absurd (hown _ bB) ho
        ·rw [e2]
         refine .inl ⟨t,aI t fun x hx e=>?_,rfl⟩
         exact ZP (D:=g.D) (ρ:=g.ρ) (nb:=s.b.length) ps x.2 (by rw [<-e];exact hx) e1
       ·rw [hE.2,qp] at q1
        refine .inr ⟨i,j,cs,q1,q2,?_⟩
        rw [<-q3]
        exact(hb.cell (p:=⟨g.ρ i,j,none⟩) (h.1.ρlt (List.getElem?_eq_some_iff.1 q1).1)).symm
      have aK:=bi.1.boxAt (some d) z.cells e (z.cells.toList.map Q6) aB.1 m3 (.inl (Nat.le_trans h.1.fr.size bj)) (fun i hi e=>by
       rw [ao] at hi
       have:=h.1.ρlt hi
       have e':g.ρ i=b:=e
       omega) (fun o J=>J.1.2 m1) (fun u q hs ho e=>by
       have bF:=bG u q hs ho
       have:=(zX (h.1.owns u q bF) ho e).1
       omega) (fun i p hp=>⟨.dat (aB.2 i p hp).1,(aB.2 i p hp).2⟩) (fun p hp=>by
       obtain⟨v,_,rfl⟩:=List.mem_map.1 hp
       unfold Q6;split<;>rfl)
      rw [<-zN (aV I af.2.2),ai] at aK
      refine hF _ _ ⟨aK,by rw [(zD _ _ _).2];exact af.2.1,by rw [(zD _ _ _).1];exact af.2.2⟩ fun u hu=>?_
      refine(Rel.restrict hu).mono (fun b o J=>J) (fun _ _ _ _ h=>h) (by rw [<-ai];simp [PS.put,ao]) fun i hi=>?_
      show (if i=s'.b.length then b else g.ρ i)=g.ρ i
      rw [if_neg (by omega)]
     refine⟨VA z.cells e,fun u S S' h hk=>VA.stab h hk,?_,VG (fun b o=>g.D b o\/w.heap.size<=b) g.ρ s.b.length p,fun u S S' h hk=>VG.stab h hk,?_,fun S G _=>?_,fun S G _=>?_⟩
     ·unfold Pl.stepOk
      rw [aC]
      intro I S G _ _ K hK
      show o.upon P I (fun I Z=>∃ F',K I (F',Z)) (QL B nt Q) ((execOp I.eval o).run P S.2)
      rw [aZ]
      have aD:Keep qe S.2 (S.2.alloc (.cells z.cells e)):=(Keep.refl _ _).alloc _
      refine⟨S.2.heap.size::S.1,hK _ (S.2.heap.size::S.1,_) ⟨aD,fun b hb=>List.mem_cons_of_mem _ hb,fun b hb=>?_⟩ ⟨G.1.trans aD,fun b hb=>?_⟩ ⟨_,List.mem_cons_self,rfl,World.alloc_heap_new _ _⟩⟩
      ·rcases List.mem_cons.1 hb with rfl | hb
       ·exact .inr (Nat.le_refl _)
       ·exact .inl hb
      ·rcases List.mem_cons.1 hb with rfl | hb
       ·exact⟨G.1.size,by simp⟩
       ·exact⟨(G.2 b hb).1,Nat.lt_of_lt_of_le (G.2 b hb).2 aD.size⟩
     ·unfold Pl.stepOk
      rw [aR]
      intro I S G _ aX K2 bg
      have aY:Rd (fun b o=>(g.D b o\/w.heap.size<=b)/\b ∉ S.1) g.ρ s' (zB I) (zA of) S.2:=by
       refine⟨fun t ht=>?_,fun i cs aP=>?_,aS S G⟩
       ·rw [hE.2,qp,hE.1]
        have bp:d≠t:=fun e=>bE of (by rw [List.getElem?_eq_getElem (show m+1<l.length by omega),ah]) (by rw [e];exact ht)
        revert ht
        generalize zA of=ts at aX ⊢
        induction ts with
        | nil=>intro ht;cases ht
        | cons t' ts ih=>
          intro ht
          obtain⟨h1,h2⟩:=aX
          rcases List.mem_cons.1 ht with rfl | ht
          ·rw [X,zfF bp] at h1
           rcases jk (D:=fun b o=>g.D b o\/w.heap.size<=b) (ρ:=g.ρ) (nb:=s.b.length) (t:=t) ps s hdd with⟨p,_,e1,e2⟩ | ⟨e1,e2⟩
           ·rw [e1] at h1
            obtain⟨u,hu,hv⟩:=h1
            rw [e2]
            have:zB I t=u:=hu.2.1
            rw [this];exact hv
           ·rw [e1] at h1
            rw [e2]
            have:zB I t=a.tmps.getD t undef:=h1.2.1
            rw [this];exact h0 S G t
          ·exact ih h2 ht
       ·rw [hE.2,qp] at aP ⊢
        exact am S G i cs aP
      obtain⟨p',rfl,_,bD⟩:=y9 aU aY h2
      refine bD (fun I Z=>∃ F',K2 I (F',Z)) (QL B nt Q) fun u Z hb hrel _=>⟨S.1,?_⟩
      have ad:Keep qe S.2 Z:=Keep.of_below' hb (Nat.le_refl _)
      refine bg u (S.1,Z) ⟨ad,fun _ h=>h,fun _ h=>.inl h⟩ ⟨G.1.trans ad,fun b aN=>⟨(G.2 b aN).1,Nat.lt_of_lt_of_le (G.2 b aN).2 ad.size⟩⟩ ?_
      rw [hE.2,qp] at hrel
      refine Rel.mono hrel (fun b o h=>?_) (fun _ _ _ _ h=>h) (Nat.le_refl _) fun _ _=>rfl
      rcases h with h | h
      ·exact h
      ·exact⟨.inr (Nat.le_trans G.1.size h),fun hm=>by have:=(G.2 b hm).2;omega⟩
     ·rw [X,M,List.append_assoc]
      refine ab S G _ _ fun a2 g2 hA hV=>?_
      intro u hu
      have aL:=hA.1.put (some L) (hV u hu) (.none bC)
      rw [<-zN (aq a2 hA.2.2)] at aL
      rw [az]
      show wpList P l.toArray (QL B nt Q) (l.drop (m+1+1)) (a2.put (some L) u) S.2
      rw [List.drop_eq_getElem_cons (show m+1+1<l.length by omega),aG]
      exact z5 _ _ ⟨s3.t,s3.b⟩ _ _ _ aO aJ (RA.eqS ⟨aL,by rw [(zD _ _ _).2];exact hA.2.1,by rw [(zD _ _ _).1];exact hA.2.2⟩ (by
       obtain⟨q1,q2⟩:=aj s3.b
       refine⟨fun t=>(q1 t).symm.trans ?_,ar⟩
       rfl))
     ·have ay:(qw (fun b o=>g.D b o\/w.heap.size<=b) g.ρ s.b.length ps++[(o.dst,VA z.cells e)]++[(of.dst,VG (fun b o=>g.D b o\/w.heap.size<=b) g.ρ s.b.length p)]).take (m+1)=qw (fun b o=>g.D b o\/w.heap.size<=b) g.ρ s.b.length ps++[(some d,VA z.cells e)]:=by
       rw [List.take_append_of_le_length (by simp [qw,hln]),List.take_of_length_le (by simp [qw,hln]),X]
      rw [ay]
      refine ab S G _ [] fun a2 g2 hA _=>?_
      have bH:=zax (ak xa bw) (ak xb bz) ar aJ
      have be:=ZO (o:=os) (B:=B) (a:=a2) (w:=S.2) (s:=s2) bu (by rw [U];intro t ht;cases ht) hA.1 (by rw [U];exact bH)
      show V (m+1+1) _ a2 S
      rw [av]
      simp only [wpOp,List.getElem?_toArray,List.getElem?_eq_getElem (show m+1+1<l.length by omega),aG]
      rw [if_pos (by simp [Region.wanted,br])]
      refine .inl (be _ _ ?_)
      rintro s4 g4 u4 w4 ⟨e4,ad⟩ aM
      refine⟨[],?_⟩
      simp only [wpOp,List.getElem?_toArray,List.getElem?_eq_getElem (show m+1<l.length by omega),ah]
      rw [if_pos (by simp [Region.wanted,aR])]
      rw [U] at aM ⊢
      have aw:(a2.put none u4).tmps.size=nt:=by rw [(zD _ _ _).1];exact hA.2.2
      have bc:s4.ev x0=s'.ev x0:=by
       cases x0 with
       | t i=>
         simp only [jY,Bool.not_eq_true',beq_eq_false_iff_ne] at aW
         show yr s4.t i=yr s'.t i
         rw [e4,ae]
         simp only [yr]
         rw [if_neg (fun e:d=i=>aW e.symm)]
       | c p=>rfl
       | f p=>rfl
      have bq:PK.e P (.ex x0 i0) of.dst s4 fun s5=>s5=⟨(L,p)::s4.t,s4.b⟩:=by
       show PK.q P s4 (.ex x0 i0) fun y=>s4.put of.dst y=⟨(L,p)::s4.t,s4.b⟩
       simp only [PK.q,bc] at h2 ⊢
       split at h2
       ·split at h2
        ·rw [h2,M];rfl
        ·exact h2.elim
       ·exact h2.elim
      have bf:=ZO (o:=of) (B:=B) (a:=a2.put none u4) (w:=w4) (s:=s4) aU (by rw [M];exact aq _ aw) aM bq
      refine .inl (bf _ _ ?_)
      rintro s5 g5 u5 w5 rfl bh
      refine⟨[],?_⟩
      rw [az]
      show wpList P l.toArray (QL B nt Q) (l.drop (m+1+1+1)) _ w5
      refine z5 _ _ ⟨s3.t,s4.b⟩ _ _ _ hr ad (RA.eqS ⟨bh,?_,?_⟩ (by
       obtain⟨q1,q2⟩:=aj s4.b
       refine⟨fun t=>?_,rfl⟩
       rw [e4]
       exact(q1 t).symm))
      ·rw [(zD _ _ _).2,(zD _ _ _).2];exact hA.2.1
      ·rw [(zD _ _ _).1];exact aw)
   (l.take m) (is.take m) [] s (EqS.refl _) bl (by simp;omega) (fun j hj=>by
     have bt:j<m:=by simp at hj;omega
     simp [List.getElem?_take,bt]) (fun j x h=>by simp at h) List.Pairwise.nil (by simp) hq
  simpa [qw] using this
 have bb:l.take (m+1+1)=l.take m++[o,of]:=by
  rw [List.take_succ_eq_append_getElem (show m+1<l.length by omega),List.take_succ_eq_append_getElem (show m<l.length by omega),ho,ah]
  simp
 rw [<-bb] at ax
 subst av
 subst az
 refine Pl.greadyF (Ω:=GW) (ops:=l.toArray) (nh:=m+1) (a0:=a) (w0:=([],w.drew)) (C:=CG w.drew) rfl (J1 P (QL B nt Q)) (fun i K a S=>wpOp P l.toArray (QL B nt Q) i (fun I Z=>∃ F',K I (F',Z)) a S.2) (fun n N a S=>wpAny P .any l.toArray (QL B nt Q) n N a S.2) (fun a S=>QL B nt Q .normal a S.2) (fun k a S=>wpList P l.toArray (QL B nt Q) (l.drop k) a S.2)
  ?_ (fun i K K' a w hk hs=>wpOp_mono (fun a w ⟨F,h⟩=>⟨F,hk _ _ h⟩) hs) (fun N a w h1 h2=>⟨h1,h2⟩) (fun bJ N a w h1 h2=>⟨h1,fun i hi=>wpOp_mono (fun a w ⟨F,h⟩=>h) (h2 i hi)⟩) ?_ ?_ hR aE aA hT (by simpa using ba) h.2.2 ⟨Keep.refl _ _,fun b hb=>by cases hb⟩ ax
 ·intro i o K a S ho hs
  unfold wpOp
  simp only [ho]
  split
  ·rename_i hw;rw [if_pos hw] at hs;exact .inl hs
  ·rename_i hw;rw [if_neg hw] at hs;exact⟨S.1,hs⟩
 ·intro k a S hk ht
  have aT:k<l.length:=by simpa using hk
  simp only [List.drop_eq_getElem_cons aT,wpList] at ht
  unfold wpOp
  simp only [List.getElem?_toArray,List.getElem?_eq_getElem aT]
  split
  ·rename_i hw
   rw [if_pos hw] at ht
   exact ht.imp (Oper.wp_mono fun a w h=>⟨[],h⟩) id
  ·rename_i hw
   rw [if_neg hw] at ht
   exact⟨[],ht⟩
 ·intro a w ht
  simpa [wpList] using ht
theorem zcP {s a:PS} (h:∀ t,a.get t=s.get t) (x:PO):a.ev x=s.ev x:=by
 cases x with
 | t i=>exact h i
 | c p=>rfl
 | f p=>rfl
theorem zgn {k:PK} (hk:QI k=true) {s u:PS} (h:∀ t,u.get t=s.get t) (K:PV->Prop):PK.q P u k K=PK.q P s k K:=by
 have a:=zcP h
 have j:∀ y n (K:Nat->Prop),qBd u y n K=qBd s y n K:=fun y n K=>by cases y<;>simp only [qBd,a]
 cases k<;>first | (simp only [PK.q,a,j];done) | cases hk
def Hist (P:Program) (a:PS->Prop):List PI->PS->List (Option Nat × PV)->Prop
 | [],s,[]=>a s
 | i::l,s,(d,p)::qs=>i.d=d/\p.own=none/\i.k.q P s (fun y=>y=p)/\Hist P a l (s.put d p) qs
 | _,_,_=>False
theorem Hist.len {j:PS->Prop}:∀ {l:List PI} {s:PS} {a:List (Option Nat × PV)},Hist P j l s a->a.length=l.length/\j (zy s a)/\a.map (·.1)=l.map (·.d)
 | [],s,[],h=>⟨rfl,h,rfl⟩
 | i::l,s,(d,p)::a,h=>by
   obtain⟨u,w,y⟩:=Hist.len h.2.2.2
   exact⟨by simp [u],w,by simp [y,h.1]⟩
 | [],_,_::_,h=>h.elim
 | _::_,_,[],h=>h.elim
theorem Hist.drop {j:PS->Prop}:∀ {l:List PI} {s:PS} {a:List (Option Nat × PV)} (c:Nat),Hist P j l s a->Hist P j (l.drop c) (zy s (a.take c)) (a.drop c)
 | l,s,a,0,h=>by simpa [zy] using h
 | [],s,[],c+1,h=>h
 | i::l,s,(d,p)::a,c+1,h=>by simpa [zy] using Hist.drop c h.2.2.2
 | [],_,_::_,c+1,h=>h.elim
 | _::_,_,[],c+1,h=>h.elim
theorem vX:∀(a:List (Option Nat × PV)) {s s4:PS},(∀ t,s4.get t=s.get t)->∀ t,(zy s4 a).get t=(zy s a).get t
 | [],s,s4,h,t=>h t
 | (d,p)::a,s,s4,h,t=>by
   refine vX a (s:=s.put d p) (s4:=s4.put d p) (fun t=>?_) t
   cases d with
   | none=>exact h t
   | some d=>
     by_cases e:d=t
     ·subst e;rw [zF,zF]
     ·rw [zV _ _ e,zV _ _ e];exact h t
def zgD (P:Program) (Q:Exit->Act->World->Prop) (K:Act->World->Prop):List Oper->Act->World->Prop
 | [],a,w=>K a w
 | o::l,a,w=>o.wp P a w (zgD P Q K l) Q
theorem zd4 {Y:Array Oper} {Kt:PS->Prop} {Q:Exit->Act->World->Prop} {K:Act->World->Prop}:∀(l:List PI) (lo:List Oper) (s:PS) (E:List (Option Nat × PV)) (C:PS) (G:Gh) (a:Act) (w:World),Hist P Kt l s E->zI P nt Y lo=some l->(∀ i ∈ l,i.g=none/\QI i.k=true)->(∀ t,C.get t=s.get t)->RA B nt G C a w ->
 (∀ L Z J,RA B nt L (zy C E) Z J->K Z J)->zgD P Q K lo a w
 | [],lo,s,E,C,G,a,w,hh,A,hs,he,h,hK=>by
   cases lo with
   | nil=>
     cases E with
     | nil=>exact hK G a w h
     | cons q E=>exact hh.elim
   | cons o lo=>
     simp only [zI,Option.bind_eq_some_iff] at A
     obtain⟨k,_,r,_,A⟩:=A
     split at A
     ·split at A
      ·cases A
      ·simp only [Option.bind_eq_some_iff] at A
       obtain⟨t,_,A⟩:=A
       split at A<;>cases A
     ·cases A
 | i::l,[],s,E,C,G,a,w,hh,A,hs,he,h,hK=>by cases A
 | i::l,o::lo,s,[],C,G,a,w,hh,A,hs,he,h,hK=>hh.elim
 | i::l,o::lo,s,(d,p)::E,C,G,a,w,hh,A,hs,he,h,hK=>by
   obtain⟨hd,hp,hq,S⟩:=hh
   obtain⟨hg,X⟩:=hs i (by simp)
   simp only [zI,Option.bind_eq_some_iff] at A
   obtain⟨k,hk,r,hr,A⟩:=A
   have N:vd nt o.dst=true/\o.dst=d/\i.k=k/\r=l:=by
    split at A
    ·rename_i F
     split at A
     ·simp only [Option.some.injEq,List.cons.injEq] at A
      obtain⟨rfl,rfl⟩:=A
      exact⟨F,hd,rfl,rfl⟩
     ·simp only [Option.bind_eq_some_iff] at A
      obtain⟨t,_,A⟩:=A
      split at A
      ·simp only [Option.some.injEq,List.cons.injEq] at A
       obtain⟨rfl,rfl⟩:=A
       cases hg
      ·cases A
    ·cases A
   obtain⟨F,H,rfl,rfl⟩:=N
   have O:∀ t,o.dst=some t->t<a.tmps.size:=fun t ht=>by
    rw [ht] at F
    rw [h.2.2];simpa [vd] using F
   have U:PK.q P C i.k fun y=>y=p:=by rw [zgn X he];exact hq
   obtain⟨I,rfl,T,V⟩:=y9 hk (h.1.rd (o:=o)) U
   have hE:=Z0 (K:=fun s5=>s5=C.put o.dst I) O h.1 ⟨I,rfl,T,V⟩
   refine hE _ _ ?_
   rintro s5 L u J rfl M
   refine zd4 _ lo _ E _ L _ J S hr (fun j hj=>hs j (by simp [hj])) (fun t=>?_) ⟨M,by rw [(zD _ _ _).2];exact h.2.1,by rw [(zD _ _ _).1];exact h.2.2⟩ (fun g6 a6 w6 h6=>hK g6 a6 w6 (by
    have e:zy C ((d,I)::E)=zy (C.put o.dst I) E:=by rw [H];rfl
    rw [e];exact h6))
   rw [H]
   cases d with
   | none=>exact he t
   | some d=>
     by_cases e:d=t
     ·subst e;rw [zF,zF]
     ·rw [zV _ _ e,zV _ _ e];exact he t
theorem VM {k:IntKind} {n:Int} {K a:PV->Prop} (h:∀ p,K p->a p):qar k n K->qar k n a:=by
 unfold qar
 split
 ·exact fun hk=>⟨hk.1,h _ hk.2⟩
 ·exact h _
theorem zbA {op:BinOp} {k:IntKind} {m n:Int} {K a:PV->Prop} (h:∀ p,K p->a p):Xo op k m n K->Xo op k m n a:=by
 unfold Xo
 split<;>first | exact VM h | exact fun hk=>⟨hk.1,VM h hk.2⟩ | exact fun hk=>⟨hk.1,h _ hk.2⟩ | exact h _ | exact id
theorem VK {s:PS} {y:Option PO} {n:Nat} {K a:Nat->Prop} (h:∀ m,K m->a m):qBd s y n K->qBd s y n a:=by
 unfold qBd
 split
 ·exact h _
 ·unfold vR
  split
  ·exact fun hk=>⟨hk.1,h _ hk.2⟩
  ·exact id
theorem Kk {k:PK} (hk:QI k=true) {K a:PV->Prop} (h:∀ p,K p->a p):PK.q P s k K->PK.q P s k a:=by
 cases k<;>try (cases hk;done)
 case bin op x y=>
  simp only [PK.q,QB]
  split
  ·exact fun hk=>⟨hk.1,zbA h hk.2⟩
  ·exact id
 case not x=>
  simp only [PK.q,qV]
  split
  ·exact h _
  ·exact id
 case cv c x=>
  simp only [PK.q,vR]
  split
  ·exact h _
  ·exact id
 case ln x=>
  simp only [PK.q,QA]
  split
  ·exact h _
  ·exact id
 case ex x i=>
  simp only [PK.q]
  split
  ·split
   ·exact h _
   ·exact id
  ·exact id
 case sc x lo hi n=>
  simp only [PK.q,QA]
  split
  ·exact VK fun _=>VK fun _ hk=>⟨hk.1,hk.2.1,hk.2.2.1,h _ hk.2.2.2⟩
  ·exact id
theorem K1 {a:PS->Prop}:∀(l:List PI) (s:PS),(∀ i ∈ l,i.g=none/\QI i.k=true)->zf P l a s->∃ u,Hist P a l s u
 | [],s,_,h=>⟨[],h⟩
 | i::l,s,hg,h=>by
   have hi:=(hg i (by simp)).1
   have w:i.k.q P s fun p=>p.own=none/\zf P l a (s.put i.d p):=by
    have h:i.guard s (fun s=>i.k.q P s fun p=>p.own=none/\zf P l a (s.put i.d p)) (fun s=>zf P l a (s.put i.d (.v undef))):=h
    unfold PI.guard at h
    rw [hi] at h
    exact h
   obtain⟨p,⟨ho,B⟩,y⟩:=zat i.k _ w
   obtain⟨u,C⟩:=K1 l _ (fun j A=>hg j (by simp [A])) B
   exact⟨(i.d,p)::u,rfl,ho,y,C⟩
theorem Yv {y:PS->Prop}:∀(l:List PI) (s:PS) (a:List (Option Nat × PV)),(∀ i ∈ l,i.g=none/\QI i.k=true)->Hist P y l s a->zf P l (fun s'=>s'=zy s a) s
 | [],s,[],_,_=>rfl
 | i::l,s,(d,p)::a,hg,h=>by
   obtain⟨C,ho,A,B⟩:=h
   have hi:=hg i (by simp)
   show i.guard s (fun s'=>i.k.q P s' fun w=>w.own=none/\zf P l _ (s'.put i.d w)) (fun s'=>zf P l _ (s'.put i.d (.v undef)))
   unfold PI.guard
   rw [hi.1]
   refine Kk hi.2 (fun w u=>?_) A
   subst u
   refine⟨ho,?_⟩
   rw [C]
   exact Yv l _ a (fun j E=>hg j (by simp [E])) B
 | [],_,_::_,_,h=>h.elim
 | _::_,_,[],_,h=>h.elim
theorem KI {a:Array Oper} {u r nt:Nat} (h:zck a u r nt=true):1<=r/\u+r+1<=a.size/\Pl.ChkR a (u+r) nt/\(∀ i,i<u->∃ j,j<=u+r/\i<j/\¬(u<=j/\j<u+r)/\edge a j i=true)/\(∀ i,u<=i->i+1<u+r->edge a (i+1) i=true)/\(u+r+1<a.size->edge a (u+r+1) (u+r - 1)=true):=by
 unfold zck at h
 simp only [Bool.and_eq_true,List.all_eq_true,List.mem_range,decide_eq_true_eq,Bool.or_eq_true] at h
 obtain⟨⟨⟨⟨⟨E,F⟩,G⟩,H⟩,I⟩,y⟩:=h
 refine⟨E,F,fun i hi=>?_,fun i hi=>?_,fun i hi M=>?_,fun N=>y.resolve_left (by omega)⟩
 ·have h:=G i hi
  cases ho:a[i]? with
  | none=>simp [ho] at h
  | some o=>
    simp only [ho,Bool.and_eq_true,List.all_eq_true] at h
    obtain⟨⟨O,w⟩,B⟩:=h
    refine⟨o,rfl,O,?_,?_⟩
    ·intro j b L
     simp only [L,Bool.and_eq_true,decide_eq_true_eq] at w
     exact⟨w.1.1,w.1.2,w.2⟩
    ·intro d K
     simp only [K,Bool.and_eq_true,decide_eq_true_eq,List.all_eq_true,List.mem_range,Bool.or_eq_true,Bool.not_eq_true',beq_eq_false_iff_ne] at B
     exact⟨B.1,fun j C e=>(B.2 j C).resolve_right fun A=>A e⟩
 ·have h:=H i hi
  simp only [List.any_eq_true,List.mem_range,Bool.and_eq_true,decide_eq_true_eq,Bool.not_eq_true',Bool.and_eq_false_iff,decide_eq_false_iff_not] at h
  obtain⟨j,C,⟨y,P⟩,J⟩:=h
  exact⟨j,by omega,y,by omega,J⟩
 ·have h:=I i (by omega)
  simp only [Bool.not_eq_true',Bool.and_eq_false_iff,decide_eq_false_iff_not] at h
  exact h.resolve_left (by omega)
theorem vW (s:PS) (a j:List (Option Nat × PV)):zy s (a++j)=zy (zy s a) j:=by simp [zy,List.foldl_append]
theorem zfZ {C E:PS} {B a A:List (Option Nat × PV)} {m c:Nat} (L:EqS E (zy C B)) (S:B.length=m) (T:a.length=m+A.length) (J:ke a) (I:∀ j,j<m->(B[j]?.map (·.1))=a[j]?.map (·.1)) (F:∀ j,j<A.length->(A[j]?.map (·.1))=a[m+j]?.map (·.1)) (N:EqS (zy E A) (zy C a)) :
 EqS (zy E (A.take c)) (zy C (a.take (m+c))):=by
 refine⟨fun t=>?_,by rw [qp,qp];exact L.2.trans (qp _ _)⟩
 by_cases ht:∃ j,c<=j/\j<A.length/\a[m+j]?.map (·.1)=some (some t)
 ·obtain⟨j,P,Q,G⟩:=ht
  have H:m+j<a.length:=by omega
  rw [List.getElem?_eq_getElem H] at G
  have M:(a[m+j]).1=some t:=by simpa using G
  have no:∀ i,i<m+j->∀ x,a[i]? = some x->x.1≠some t:=fun i hi x w e=>by
   have K:=(List.getElem?_eq_some_iff.1 w).1
   have:=List.pairwise_iff_getElem.1 J i (m+j) K H hi
   have ex:a[i]=x:=(List.getElem?_eq_some_iff.1 w).2
   rw [ex,e,M] at this
   rcases this with h | h
   ·cases h
   ·exact h rfl
  rw [qt (a.take (m+c)) C fun x w=>by
   obtain⟨i,hi⟩:=List.getElem?_of_mem w
   rw [List.getElem?_take] at hi
   split at hi
   ·exact no i (by omega) x hi
   ·cases hi]
  rw [qt (A.take c) E fun x w e=>by
   obtain⟨i,hi⟩:=List.getElem?_of_mem w
   rw [List.getElem?_take] at hi
   split at hi
   ·rename_i hic
    have y:=(List.getElem?_eq_some_iff.1 hi).1
    have:=F i y
    rw [hi] at this
    have u:m+i<a.length:=by omega
    rw [List.getElem?_eq_getElem u] at this
    refine no (m+i) (by omega) _ (List.getElem?_eq_getElem u) ?_
    simp only [Option.map_some,Option.some.injEq] at this
    rw [<-this,e]
   ·cases hi]
  rw [L.1,qt B C fun x w e=>by
   obtain⟨i,hi⟩:=List.getElem?_of_mem w
   have O:=(List.getElem?_eq_some_iff.1 hi).1
   have:=I i (by omega)
   rw [hi] at this
   have u:i<a.length:=by omega
   rw [List.getElem?_eq_getElem u] at this
   refine no i (by omega) _ (List.getElem?_eq_getElem u) ?_
   simp only [Option.map_some,Option.some.injEq] at this
   rw [<-this,e]]
 ·have e1:(zy E A).get t=(zy E (A.take c)).get t:=by
   conv=>lhs;rw [<-List.take_append_drop c A,vW]
   refine qt _ _ fun x w e=>ht ?_
   obtain⟨i,hi⟩:=List.getElem?_of_mem w
   rw [List.getElem?_drop] at hi
   have y:=(List.getElem?_eq_some_iff.1 hi).1
   refine⟨c+i,by omega,y,?_⟩
   rw [<-F _ y,hi]
   simp [e]
  have e2:(zy C a).get t=(zy C (a.take (m+c))).get t:=by
   conv=>lhs;rw [<-List.take_append_drop (m+c) a,vW]
   refine qt _ _ fun x w e=>ht ?_
   obtain⟨i,hi⟩:=List.getElem?_of_mem w
   rw [List.getElem?_drop] at hi
   have y:=(List.getElem?_eq_some_iff.1 hi).1
   refine⟨c+i,by omega,by omega,?_⟩
   rw [show m+(c+i)=m+c+i by omega,hi]
   simp [e]
  rw [<-e1,<-e2]
  exact N.1 t
theorem zag {a:PO}:∀(j:List (Option Nat × PV)) (s:PS),(∀ x ∈ j,∀ d,x.1=some d->jY d a=true)->(zy s j).ev a=s.ev a:=fun j s h=>by
 cases a with
 | t i=>
   refine qt j s fun x u e=>?_
   have:=h x u i e
   simp [jY] at this
 | c p=>rfl
 | f p=>rfl
theorem JB {fr:Prop} {l:List Oper} {is t':List PI} {m r n0:Nat} {xa xb:PO} {H:List PI} {Q:PX->PS->Prop} (hc:zI P nt l.toArray l=some is) (bb:is.drop (m+r)=⟨none,none,.st xa xb n0⟩::t')
 (hK:zck l.toArray m r nt=true) (hT:yK l.toArray (m+r)=true) (bc:((is.drop m).take r).all (zcU xa xb)=true)
 (hq:zf P (is.take (m+r)) (qZ P fr H s (⟨none,none,.st xa xb n0⟩::t') (Q .n)) s) (h:RA B nt g s a w) :
 wpAny P .any l.toArray (QL B nt Q) l.toArray.size (Array.replicate l.toArray.size false) a w.drew:=by
 obtain⟨bm,aT,hR,aA,ae,ax⟩:=KI hK
 simp only [List.size_toArray] at aT
 obtain⟨ba,u⟩:=qz (m+r) l is hc (by omega)
 rw [List.drop_eq_getElem_cons (show m+r<l.length by omega),bb] at u
 obtain⟨os,aB⟩:∃ o,l[m+r]=o:=⟨_,rfl⟩
 rw [aB] at u
 have one:∀ {o:Oper} {l':List Oper} {d:Option Nat} {k:PK} {t:List PI},zI P nt l.toArray (o::l')=some (⟨d,none,k⟩::t)->vd nt o.dst=true/\o.guard=none/\o.dst=d/\XR P o=some k/\zI P nt l.toArray l'=some t:=fun {o l' d k t} u=>by
  simp only [zI,Option.bind_eq_some_iff] at u
  obtain⟨k',hk,r,hr,u⟩:=u
  split at u
  ·rename_i hdk
   split at u
   ·rename_i hg0
    simp only [Option.some.injEq,List.cons.injEq,PI.mk.injEq] at u
    exact⟨hdk,hg0,u.1.1,by rw [<-u.1.2.2];exact hk,by rw [<-u.2];exact hr⟩
   ·simp only [Option.bind_eq_some_iff] at u
    obtain⟨t,_,u⟩:=u
    split at u
    ·simp only [Option.some.injEq,List.cons.injEq,PI.mk.injEq] at u
     cases u.1.2.1
    ·cases u
  ·cases u
 obtain⟨br,bf,N,bi,hr⟩:=one u
 obtain⟨aI,L⟩:=qz m (l.take (m+r)) (is.take (m+r)) ba (by simp;omega)
 obtain⟨ih,aL⟩:∃ x,(is.take (m+r)).take m=x:=⟨_,rfl⟩
 obtain⟨Y,az⟩:∃ x,(is.take (m+r)).drop m=x:=⟨_,rfl⟩
 obtain⟨lh,ah⟩:∃ x,(l.take (m+r)).take m=x:=⟨_,rfl⟩
 obtain⟨U,ag⟩:∃ x,(l.take (m+r)).drop m=x:=⟨_,rfl⟩
 rw [<-List.take_append_drop m (is.take (m+r)),aL,az,xS] at hq
 rw [ah,aL] at aI
 rw [ag,az] at L
 have aO:lh.length=m:=by rw [<-ah];simp;omega
 have ao:U.length=r:=by rw [<-ag];simp;omega
 have aN:∀ j,j<m->lh[j]? = l[j]?:=fun j hj=>by
  rw [<-ah,List.getElem?_take,if_pos hj,List.getElem?_take,if_pos (by omega)]
 have ac:∀ j,j<r->U[j]? = l[m+j]?:=fun j hj=>by
  rw [<-ag,List.getElem?_drop,List.getElem?_take,if_pos (by omega)]
 have am:∀ i ∈ Y,zcU xa xb i=true:=by
  have e:Y=(is.drop m).take r:=by rw [<-az,List.drop_take];congr 1;omega
  rw [e];exact List.all_eq_true.1 bc
 have af:∀ i ∈ Y,i.g=none/\QI i.k=true:=fun i hi=>by
  have:=am i hi
  simp only [zcU,Bool.and_eq_true,Option.isNone_iff_eq_none] at this
  exact this.1
 have bu:w.drew.heap.size=w.heap.size:=rfl
 have O:∀ S:GW,CG w.drew S->∀ b,b<w.heap.size->b ∉ S.1:=fun S J b hb hm=>by have:=(J.2 b hm).1;omega
 have M:∀ w',Keep qe w.drew w'->∀ b o x,g.D b o->w.cell? ⟨b,o,none⟩=some x->w'.cell? ⟨b,o,none⟩=some x:=fun w' hk b o x _ X=>qa (qu hk) (show b<w.drew.heap.size from qF X) X
 have h0:∀ S:GW,CG w.drew S->∀ t,Rel (fun b o=>(g.D b o\/w.heap.size<=b)/\b ∉ S.1) g.ρ s.b.length S.2 (a.tmps.getD t undef) (s.get t):=fun S J t=>(h.1.slots t).mono (fun b o I=>⟨.inl I,O S J b (h.1.dlt b o I)⟩) (M S.2 J.1) (Nat.le_refl _) fun _ _=>rfl
 have ak:∀ S:GW,CG w.drew S->∀(i:Nat) cs,s.b[i]? = some cs->zaA ⟨fun b o=>(g.D b o\/w.heap.size<=b)/\b ∉ S.1,g.ρ⟩ s.b.length S.2 i cs:=fun S J i cs hi=>by
  obtain⟨_,vs,e,hv,hz,hb⟩:=h.1.boxes i cs hi
  have aQ:g.ρ i<w.drew.heap.size:=h.1.ρlt (List.getElem?_eq_some_iff.1 hi).1
  exact⟨vs,e,(J.1.block _ aQ fun h=>h).trans hv,hz,fun j p hp=>⟨(hb j p hp).1.mono (fun b o I=>⟨.inl I,O S J b (h.1.dlt b o I)⟩) (M S.2 J.1) (Nat.le_refl _) fun _ _=>rfl,(hb j p hp).2⟩⟩
 have aK:∀ S:GW,CG w.drew S->GL (fun b o=>(g.D b o\/w.heap.size<=b)/\b ∉ S.1) S.2:=fun S J=>h.1.gl.mono (fun b o I=>⟨.inl I,O S J b (h.1.dlt b o I)⟩) (M S.2 J.1)
 obtain⟨ai,ar⟩:∃ ai:Nat->(Act->GW->Prop)->Act->GW->Prop,ai=fun i K a S=>wpOp P l.toArray (QL B nt Q) i (fun a' w'=>∃ F',K a' (F',w')) a S.2:=⟨_,rfl⟩
 obtain⟨T,aH⟩:∃ T:Nat->Act->GW->Prop,T=fun k a S=>wpList P l.toArray (QL B nt Q) (l.drop k) a S.2:=⟨_,rfl⟩
 obtain⟨CT,aw⟩:∃ CT:Nat->Act->GW->Prop,CT=fun c a S=>zgD P (QL B nt Q) (fun a w=>wpList P l.toArray (QL B nt Q) (l.drop (m+r+1)) a w) (U.drop c) a S.2:=⟨_,rfl⟩
 obtain⟨E,aF⟩:∃ E:List (Option Tmp × Pl.VP GW)->Prop,E=fun aE=>(∀ S,CG w.drew S->Pl.Kpo.kp (([],w.drew):GW) S->Pl.finG (T (m+r)) S aE a)/\∀ c,c<r->∀ S,CG w.drew S->Pl.Kpo.kp (([],w.drew):GW) S->Pl.finG (fun a S=>ai (m+r) (CT c) a S) S (aE.take (m+c)) a:=⟨_,rfl⟩
 have au:Pl.walkE (J1 P (QL B nt Q)) a (([],w.drew):GW) (CG w.drew) E (lh++U) []:=by
  have:=yp (P:=P) (D:=fun b o=>g.D b o\/w.heap.size<=b) (ρ:=g.ρ) (Q:=QL B nt Q) (E:=E) (s0:=s) (a0:=a) (w0:=w.drew) (nh:=m) (nh':=m+r) (by omega) hR (l2:=U) h0 ak aK (fun b o hb=>.inr hb)
   (K:=zf P Y (qZ P fr H s (⟨none,none,.st xa xb n0⟩::t') (Q .n)))
   (fun ps hdd hln hds hown aQ ⟨s1,ad,hK1⟩=>by
     obtain⟨y,aC⟩:=K1 Y s1 af hK1
     have hh:=Yv Y s1 y af aC
     obtain⟨aS,aX,aR⟩:=aC.len
     have an:Y.length=r:=by
      have:=L
      have aD:∀(lo:List Oper) (li:List PI),zI P nt l.toArray lo=some li->li.length=lo.length:=by
       intro lo
       induction lo with
       | nil=>intro li h;cases h;rfl
       | cons o lo ih=>
         intro li h
         simp only [zI,Option.bind_eq_some_iff] at h
         obtain⟨k',hk,r,hr,h⟩:=h
         have:=ih r hr
         split at h
         ·split at h
          ·cases h;simp [this]
          ·simp only [Option.bind_eq_some_iff] at h
           obtain⟨t,_,h⟩:=h
           split at h
           ·cases h;simp [this]
           ·cases h
         ·cases h
      rw [aD _ _ L,ao]
     have aj:PK.e P (.st xa xb n0) none (zy s1 y) (ze P t' (Q .n)):=aX
     have aq:∀ x ∈ y,∀ d,x.1=some d->jY d xa=true/\jY d xb=true:=fun x X d hd=>by
      have:x.1 ∈ y.map (·.1):=List.mem_map.2 ⟨x,X,rfl⟩
      rw [aR] at this
      obtain⟨i,hi,e⟩:=List.mem_map.1 this
      have hf:=am i hi
      simp only [zcU,e,hd,Bool.and_eq_true] at hf
      exact hf.2
     have:=yp (P:=P) (D:=fun b o=>g.D b o\/w.heap.size<=b) (ρ:=g.ρ) (Q:=QL B nt Q) (E:=E) (s0:=s) (a0:=a) (w0:=w.drew) (nh:=m+r) (nh':=m+r) (by omega) hR (l2:=[]) h0 ak aK (fun b o hb=>.inr hb)
      (K:=fun s'=>s'=zy s1 y)
      (fun ps2 hdd2 hln2 hds2 hown2 hlt2 ⟨s',hE2,hs'⟩=>by
        rw [hs'] at hE2
        have aD:∀ c,EqS (zy s1 (y.take c)) (zy s (ps2.take (m+c))):=fun c=>zfZ ad hln (by rw [hln2,aS,an]) hdd2 (fun j hj=>by
         have j1:j<ps.length:=by omega
         have j2:j<ps2.length:=by omega
         rw [List.getElem?_eq_getElem j1,List.getElem?_eq_getElem j2]
         simp only [Option.map_some,Option.some.injEq]
         rw [hds j _ (List.getElem?_eq_getElem j1),hds2 j _ (List.getElem?_eq_getElem j2)])
         (fun j hj=>by
           have bg:j<r:=by rw [aS,an] at hj;exact hj
           have j2:m+j<ps2.length:=by omega
           rw [List.getElem?_eq_getElem j2,Option.map_some,hds2 (m+j) _ (List.getElem?_eq_getElem j2)]
           have e1:y[j]?.map (·.1)=(y.map (·.1))[j]?:=by rw [List.getElem?_map]
           rw [e1,aR]
           have e2:(Y.map (·.d))[j]? = U[j]?.map Oper.dst:=by
            have aV:∀(lo:List Oper) (li:List PI),zI P nt l.toArray lo=some li->li.map (·.d)=lo.map Oper.dst:=by
             intro lo
             induction lo with
             | nil=>intro li h;cases h;rfl
             | cons o lo ih=>
               intro li h
               simp only [zI,Option.bind_eq_some_iff] at h
               obtain⟨k',hk,r,hr,h⟩:=h
               have:=ih r hr
               split at h
               ·split at h
                ·cases h;simp [this]
                ·simp only [Option.bind_eq_some_iff] at h
                 obtain⟨t,_,h⟩:=h
                 split at h
                 ·cases h;simp [this]
                 ·cases h
               ·cases h
            rw [aV _ _ L,List.getElem?_map]
           rw [e2,ac j bg]
           have j3:m+j<l.length:=by omega
           unfold zJ
           simp [List.getElem?_eq_getElem j3]) hE2
        have Z:∀ S:GW,CG w.drew S->∀(c:Nat) (F:Act->GW->Prop),(∀ a2,RA B nt ⟨fun b o=>((g.D b o\/w.heap.size<=b)/\b ∉ S.1)/\b<S.2.heap.size,g.ρ⟩ (zy s1 (y.take c)) a2 S.2->F a2 S)->Pl.finG F S (qw (fun b o=>g.D b o\/w.heap.size<=b) g.ρ s.b.length (ps2.take (m+c))) a:=fun S J c F hF=>by
         have hb:=qu J.1
         have hg:R B ⟨fun b o=>((g.D b o\/w.heap.size<=b)/\b ∉ S.1)/\b<S.2.heap.size,g.ρ⟩ s (zB a) S.2:=h.1.drew.grow hb _ (fun b o I=>⟨⟨.inl I,O S J b (h.1.dlt b o I)⟩,Nat.lt_of_lt_of_le (h.1.dlt b o I) hb.size⟩) (fun b o I=>I.1.1) (fun b o I=>I.2)
         exact yL (ps2.take (m+c)) s a (hdd2.sublist (List.take_sublist _ _)) (fun x X=>hown2 x (List.mem_of_mem_take X)) (fun x X=>hlt2 x (List.mem_of_mem_take X)) (fun b o I=>I) ⟨hg,h.2⟩ rfl fun a' aY _=>hF a' (aY.eqS (aD c))
        have bl:y.take r=y:=List.take_of_length_le (by omega)
        have bj:ps2.take (m+r)=ps2:=List.take_of_length_le (by omega)
        show E (qw (fun b o=>g.D b o\/w.heap.size<=b) g.ρ s.b.length ps2)
        rw [aF]
        refine⟨fun S J _=>?_,fun c hc S J _=>?_⟩
        ·have:=Z S J r (T (m+r)) fun a2 hA=>by
          rw [bl] at hA
          rw [aH]
          show wpList P l.toArray (QL B nt Q) (l.drop (m+r)) a2 S.2
          rw [List.drop_eq_getElem_cons (show m+r<l.length by omega),aB]
          exact z5 _ _ (zy s1 y) _ _ _ u aj hA
         rw [bj] at this
         exact this
        ·have av:(qw (fun b o=>g.D b o\/w.heap.size<=b) g.ρ s.b.length ps2).take (m+c)=qw (fun b o=>g.D b o\/w.heap.size<=b) g.ρ s.b.length (ps2.take (m+c)):=by simp [qw]
         rw [av]
         refine Z S J c _ fun a2 hA=>?_
         have A:zy s1 y=zy (zy s1 (y.take c)) (y.drop c):=by rw [<-vW,List.take_append_drop]
         have aZ:(zy s1 y).b=(zy s1 (y.take c)).b:=by rw [qp,qp]
         have bn:=zax (s2:=zy s1 (y.take c)) (s3:=zy s1 y) (by rw [A];exact zag _ _ fun x X d hd=>(aq x (List.mem_of_mem_drop X) d hd).1) (by rw [A];exact zag _ _ fun x X d hd=>(aq x (List.mem_of_mem_drop X) d hd).2) aZ aj
         have ad:=ZO (o:=os) (B:=B) (a:=a2) (w:=S.2) (s:=zy s1 (y.take c)) bi (by rw [N];intro t ht;cases ht) hA.1 (by rw [N];exact bn)
         show ai (m+r) _ a2 S
         rw [ar]
         simp only [wpOp,List.getElem?_toArray,List.getElem?_eq_getElem (show m+r<l.length by omega),aB]
         rw [if_pos (by simp [Region.wanted,bf])]
         refine .inl (ad _ _ ?_)
         rintro s4 g4 u4 w4 ⟨e4,bh⟩ aG
         refine⟨[],?_⟩
         rw [N] at aG ⊢
         have aU:(a2.put none u4).tmps.size=nt:=by rw [(zD _ _ _).1];exact hA.2.2
         have aJ:(a2.put none u4).defers=B.df:=by rw [(zD _ _ _).2];exact hA.2.1
         have ab:∀ t,s4.get t=(zy s1 (y.take c)).get t:=fun t=>by
          show yr s4.t t=yr (zy s1 (y.take c)).t t
          rw [e4]
         obtain⟨_,V⟩:=qz c U Y L (by omega)
         rw [aw]
         refine zd4 _ _ _ _ s4 g4 _ w4 (aC.drop c) V (fun i hi=>af i (List.mem_of_mem_drop hi)) ab ⟨aG,aJ,aU⟩ fun g5 a5 w5 h5=>?_
         refine z5 _ _ ⟨(zy s1 y).t,s4.b⟩ _ _ _ hr bh (h5.eqS ⟨fun t=>?_,by rw [qp]⟩)
         have e5:=vX (y.drop c) ab t
         rw [<-A] at e5
         exact e5.symm)
      U Y ps s1 ad L (by rw [hln,ao]) (fun j hj=>by
       rw [hln,List.getElem?_toArray]
       exact(ac j (by omega)).symm) hds hdd hown hh
     simpa using this)
   lh ih [] s (EqS.refl _) aI (by simp [aO]) (fun j hj=>by
    simp only [List.length_nil,Nat.zero_add,List.getElem?_toArray]
    exact(aN j (by omega)).symm) (fun j x h=>by simp at h) List.Pairwise.nil (by simp) hq
  simpa [qw] using this
 have aW:l.take (m+r)=lh++U:=by rw [<-ah,<-ag,List.take_append_drop]
 rw [<-aW] at au
 subst ar
 subst aH
 subst aF
 refine Pl.greadyC (Ω:=GW) (ops:=l.toArray) (nh:=m) (r:=r) (a0:=a) (w0:=([],w.drew)) (C:=CG w.drew) rfl (J1 P (QL B nt Q)) (fun i K a S=>wpOp P l.toArray (QL B nt Q) i (fun a' w'=>∃ F',K a' (F',w')) a S.2) (fun n G a S=>wpAny P .any l.toArray (QL B nt Q) n G a S.2) (fun a S=>QL B nt Q .normal a S.2) (fun k a S=>wpList P l.toArray (QL B nt Q) (l.drop k) a S.2)
  ?_ (fun i K K' a w hk hs=>wpOp_mono (fun a w ⟨F,h⟩=>⟨F,hk _ _ h⟩) hs) (fun G a w h1 h2=>⟨h1,h2⟩) (fun bp G a w h1 h2=>⟨h1,fun i hi=>wpOp_mono (fun a w ⟨F,h⟩=>h) (h2 i hi)⟩) ?_ ?_ bm hR aA ae (by simpa using ax) hT (by simpa using aT) CT ?_ ?_ h.2.2 ⟨Keep.refl _ _,fun b hb=>by cases hb⟩ au
 ·intro i o K a S ho hs
  unfold wpOp
  simp only [ho]
  split
  ·rename_i hw;rw [if_pos hw] at hs;exact .inl hs
  ·rename_i hw;rw [if_neg hw] at hs;exact⟨S.1,hs⟩
 ·intro k a S hk ht
  have aM:k<l.length:=by simpa using hk
  simp only [List.drop_eq_getElem_cons aM,wpList] at ht
  unfold wpOp
  simp only [List.getElem?_toArray,List.getElem?_eq_getElem aM]
  split
  ·rename_i hw
   rw [if_pos hw] at ht
   exact ht.imp (Oper.wp_mono fun a w h=>⟨[],h⟩) id
  ·rename_i hw
   rw [if_neg hw] at ht
   exact⟨[],ht⟩
 ·intro a w ht
  simpa [wpList] using ht
 ·intro c a S hc ht
  rw [aw] at ht ⊢
  have ay:c<U.length:=by omega
  simp only [List.drop_eq_getElem_cons ay,zgD] at ht
  have aP:m+c<l.length:=by omega
  have e1:U[c]=l[m+c]:=by
   have:=ac c hc
   rw [List.getElem?_eq_getElem ay,List.getElem?_eq_getElem aP] at this
   exact Option.some.inj this
  have be:(U[c]).guard=none:=by
   obtain⟨_,V⟩:=qz c U Y L (by omega)
   rw [List.drop_eq_getElem_cons ay] at V
   have bq:=V
   simp only [zI,Option.bind_eq_some_iff] at V
   obtain⟨k',hk,r',bt,h3⟩:=V
   split at h3
   ·split at h3
    ·assumption
    ·simp only [Option.bind_eq_some_iff] at h3
     obtain⟨t,_,h3⟩:=h3
     split at h3
     ·simp only [Option.some.injEq] at h3
      have hm:∀ i,i ∈ Y.drop c->i.g=none:=fun i hi=>(af i (List.mem_of_mem_drop hi)).1
      rw [<-h3] at hm
      have:=hm _ List.mem_cons_self
      cases this
     ·cases h3
   ·cases h3
  unfold wpOp
  simp only [List.getElem?_toArray,List.getElem?_eq_getElem aP]
  rw [<-e1,if_pos (by simp [Region.wanted,be])]
  exact .inl (Oper.wp_mono (fun a w h=>⟨[],h⟩) ht)
 ·intro a S ht
  rw [aw] at ht
  rw [show U.drop r=[] from List.drop_of_length_le (by omega)] at ht
  exact ht
theorem YX {fr:Prop} (u:fr->∀ k,¬ B.Sb k) {l:List Oper} {y:PC} {Q:PX->PS->Prop} (j:Jv P nt l=some y) (A:pW P nt fr y Q s) (h:RA B nt g s a w):wpAny P .any l.toArray (QL B nt Q) l.toArray.size (Array.replicate l.toArray.size false) a w.drew:=by
 unfold Jv at j
 simp only [Option.bind_eq_some_iff] at j
 obtain⟨is,hl,j⟩:=j
 split at j
 ·rename_i hB
  cases j
  exact zcI (s:=s.clean) u (l:=l) (fun t=>by rw [kT];exact PV.clean_isN _) hl hB A ⟨h.1.clean,h.2⟩
 ·cases j
theorem kg {fr:Prop} (u:fr->∀ k,¬ B.Sb k) {l:List Oper} {A:PC} {Q:PX->PS->Prop} (j:YW P nt l=some A) (y:pW P nt fr A Q s) (h:RA B nt g s a w):wpAny P .any l.toArray (QL B nt Q) l.toArray.size (Array.replicate l.toArray.size false) a w.drew:=by
 unfold YW at j
 split at j
 ·rename_i x hx
  cases j
  exact YX u hx y h
 ·unfold zct at j
  simp only [Option.bind_eq_some_iff] at j
  obtain⟨is,hl,j⟩:=j
  split at j
  ·rename_i d zs t hdr
   split at j
   ·rename_i hB
    cases j
    exact zaY (fr:=fr) (s:=s.clean) hl hdr hB y ⟨h.1.clean,h.2⟩
   ·cases j
  ·cases j
theorem YY {fr:Prop} {l:List Oper} {m:Nat} {y:PC} {Q:PX->PS->Prop} (j:Jw P nt m l=some y) (A:pW P nt fr y Q s) (h:RA B nt g s a w):wpAny P .any l.toArray (QL B nt Q) l.toArray.size (Array.replicate l.toArray.size false) a w.drew:=by
 unfold Jw at j
 simp only [Option.bind_eq_some_iff] at j
 obtain⟨is,hl,j⟩:=j
 split at j
 ·rename_i d zs d' x i a' b' n t hdr
  split at j
  ·rename_i hB
   cases j
   simp only [Bool.and_eq_true,Bool.not_eq_true',beq_eq_false_iff_ne] at hB
   obtain⟨⟨⟨⟨⟨⟨C,E⟩,F⟩,G⟩,H⟩,I⟩,u⟩:=hB
   refine JA (fr:=fr) (s:=s.clean) hl hdr C E F G H I (fun o ho=>?_) A ⟨h.1.clean,h.2⟩
   unfold zkX at u
   rw [ho] at u
   simpa using u
  ·cases j
 ·cases j
theorem Y0 {fr:Prop} {l:List Oper} {A:PC} {Q:PX->PS->Prop} {j:Nat} (u:YZ P nt l j=some A) (C:pW P nt fr A Q s) (h:RA B nt g s a w):wpAny P .any l.toArray (QL B nt Q) l.toArray.size (Array.replicate l.toArray.size false) a w.drew:=by
 unfold YZ at u
 by_cases y:(zgQ l j && q9 l.length (zfU l j))=true
 ·rw [if_pos y] at u
  rw [Bool.and_eq_true] at y
  exact xd y.2 (YY (fr:=fr) u C h)
 ·rw [if_neg y] at u
  cases u
theorem Zm {fr:Prop} {l:List Oper} {y:PC} {Q:PX->PS->Prop} (u:pW P nt fr y Q s) (h:RA B nt g s a w):∀ A:List Nat,KM P nt l A=some y->wpAny P .any l.toArray (QL B nt Q) l.toArray.size (Array.replicate l.toArray.size false) a w.drew
 | [],hc=>by cases hc
 | j::r,hc=>by
   simp only [KM] at hc
   cases hj:YZ P nt l j with
   | none=>rw [hj] at hc;exact Zm u h r hc
   | some x=>
     rw [hj] at hc
     simp only [Option.some.injEq] at hc
     subst hc
     exact Y0 (fr:=fr) hj u h
theorem XT {fr:Prop} {l:List Oper} {A:PC} {Q:PX->PS->Prop} (j:zcv P nt l=some A) (C:pW P nt fr A Q s) (h:RA B nt g s a w):wpAny P .any l.toArray (QL B nt Q) l.toArray.size (Array.replicate l.toArray.size false) a w.drew:=by
 unfold zcv at j
 by_cases y:q9 l.length (zis l)=true
 ·rw [if_pos y] at j
  refine xd y ?_
  unfold zcw at j
  simp only [Option.bind_eq_some_iff] at j
  obtain⟨is,hl,u⟩:=j
  split at u
  ·rename_i a' b' n t hdr
   split at u
   ·rename_i hB
    cases u
    simp only [Bool.and_eq_true] at hB
    obtain⟨⟨E,F⟩,G⟩:=hB
    exact JB (fr:=fr) (s:=s.clean) hl hdr E F G C ⟨h.1.clean,h.2⟩
   ·cases u
  ·cases u
 ·rw [if_neg y] at j
  cases j
theorem XS {fr:Prop} (u:fr->∀ k,¬ B.Sb k) {l:List Oper} {A:PC} {Q:PX->PS->Prop} (j:zcu P nt l=some A) (y:pW P nt fr A Q s) (h:RA B nt g s a w):wpAny P .any l.toArray (QL B nt Q) l.toArray.size (Array.replicate l.toArray.size false) a w.drew:=by
 unfold zcu at j
 split at j
 ·rename_i x hx
  cases j
  exact kg u hx y h
 ·split at j
  ·rename_i x hx
   cases j
   split at hx
   ·rename_i hp
    exact xd hp (kg u hx y h)
   ·cases hx
  ·split at j
   ·rename_i x hx
    cases j
    exact XT (fr:=fr) hx y h
   ·exact Zm (fr:=fr) y h _ j
theorem ZF {K:PS->Prop} {Q:PX->PS->Prop} {e:Exit} {next:Act->World->Prop} (y:∀ s g a w,RA B nt g s a w->K s->next a w) (h:QL B nt (kL K Q) e a w):Exit.then next (QL B nt Q) e a w:=by
 cases e<;>first | exact h.elim | exact h | (obtain⟨s,g,j,u⟩:=h;exact y s g a w j u)
theorem YS {id:Nat} {Q:PX->PS->Prop} {e:Exit} (h:QL B nt (jM id Q) e a w):Exit.inBlock id (QL B nt Q) e a w:=by
 cases e<;>try exact h
 rename_i id'
 obtain⟨s,g,u,j⟩:=h
 simp only [jM] at j
 simp only [Exit.inBlock]
 split
 ·rename_i e;rw [if_pos e] at j;exact⟨s,g,u,j⟩
 ·rename_i e;rw [if_neg e] at j;exact⟨s,g,u,j⟩
theorem zdg {p:Nat->Prop} (h:∃ n,p n):∃ n,p n/\∀ m,p m->n<=m:=by
 obtain⟨n,y⟩:=h
 induction n using Nat.strongRecOn with
 | _ n ih=>
   by_cases j:∃ m,m<n/\p m
   ·obtain⟨m,u,w⟩:=j
    exact ih m u w
   ·exact⟨n,y,fun m a=>by
     rcases Nat.lt_or_ge m n with h | h
     ·exact absurd ⟨m,h,a⟩ j
     ·exact h⟩
open Classical in
theorem JT {c:Code} {y:(PX->PS->Prop)->PS->Prop} {Q:PX->PS->Prop} (hb:∀ Q s g a w,y Q s->RA B nt g s a w->c.wp P (QL B nt Q) a w) (V:pLoop y Q s) (h:RA B nt g s a w):(Code.loop c).wp P (QL B nt Q) a w:=by
 obtain⟨ι,J,S,m,X,F,G,u⟩:=V
 have C:∀ a w,(∃ n,∃ i g,J i/\m i=n/\RA B nt g (S i) a w)->∃ n,(∃ i g,J i/\m i=n/\RA B nt g (S i) a w)/\∀ k,(∃ i g,J i/\m i=k/\RA B nt g (S i) a w)->n<=k:=fun a w h=>zdg h
 obtain⟨μ,I⟩:∃ μ:Act->World->Nat,∀ a w,(∃ n,∃ i g,J i/\m i=n/\RA B nt g (S i) a w)->(∃ i g,J i/\m i=μ a w/\RA B nt g (S i) a w)/\∀ k,(∃ i g,J i/\m i=k/\RA B nt g (S i) a w)->μ a w<=k:=
  ⟨fun a w=>if h:∃ n,∃ i g,J i/\m i=n/\RA B nt g (S i) a w then Classical.choose (C a w h) else 0,fun a w h=>by
   simp only [dif_pos h]
   exact Classical.choose_spec (C a w h)⟩
 refine wp_loop (fun a w=>∃ n,∃ i g,J i/\m i=n/\RA B nt g (S i) a w) μ ⟨_,X,g,F,rfl,h.weak G⟩ ?_
 intro a w M
 obtain⟨⟨i,K,T,Z,N⟩,_⟩:=I a w M
 refine wp_mono (hb _ _ K a w (u i T) N) fun e Y w' O=>?_
 refine ZF (fun s g a w H L=>?_) O
 obtain⟨j,E,U,hs⟩:=L
 have A:∃ n,∃ i g,J i/\m i=n/\RA B nt g (S i) a w:=⟨_,j,g,E,rfl,H.weak hs⟩
 have:=(I a w A).2 (m j) ⟨j,g,E,rfl,H.weak hs⟩
 refine⟨A,?_⟩
 omega
theorem Ql {fr:Prop} {O:List Nat} (J:fr->∀ k,¬ B.Sb k):∀(c:Code) (A:PC),qx P nt O c=some A->∀(Q:PX->PS->Prop) (s:PS) (g:Gh) (a:Act) (w:World),pW P nt fr A Q s->RA B nt g s a w->c.wp P (QL B nt Q) a w:=by
 intro c
 induction c with
 | skip=>intro A j Q s g a w u h;cases j;exact wp_skip ⟨s,g,h,u⟩
 | label l=>intro A j Q s g a w u h;cases j;exact wp_label ⟨s,g,h,u⟩
 | exit id=>intro A j Q s g a w u h;cases j;exact wp_exit ⟨s,g,h,u⟩
 | ret=>intro A j Q s g a w u h;cases j;exact wp_ret ⟨s,g,h,u⟩
 | region id ops draw=>
   intro A j Q s g a w u h
   simp only [qx] at j
   split at j
   ·cases j;exact u B g a w h
   ·split at j
    ·simp only [Option.map_eq_some_iff] at j
     obtain⟨l,hl,rfl⟩:=j
     exact wp_region_list (z5 _ _ _ _ _ _ hl u h)
    ·split at j
     ·rename_i hm
      refine wp_region_any hm ?_
      have:=XS (fr:=fr) J j u h
      simpa using this
     ·cases j
 | seq x y ihx ihy=>
   intro A j Q s g a w u h
   simp only [qx,Option.bind_eq_some_iff,Option.map_eq_some_iff] at j
   obtain⟨E,C,L,K,rfl⟩:=j
   refine wp_seq (wp_mono (ihx E C _ s g a w u h) fun e M N F=>ZF (fun s g a w G H=>ihy L K Q s g a w H G) F)
 | cond c x y ihx ihy=>
   intro A j Q s g a w u h
   simp only [qx,Option.bind_eq_some_iff,Option.map_eq_some_iff] at j
   obtain⟨S,I,E,C,L,K,rfl⟩:=j
   obtain⟨b,e1,_,G,H⟩:=xE u (Xk I fun t _=>h.1.slots t)
   exact wp_cond_split e1 (fun e=>ihx E C Q s g a w (G e) h) (fun e=>ihy L K Q s g a w (H e) h)
 | block id x ih=>
   intro A j Q s g a w u h
   simp only [qx,Option.map_eq_some_iff] at j
   obtain⟨E,C,rfl⟩:=j
   exact wp_block (wp_mono (ih E C _ s g a w u h) fun e M N F=>YS F)
 | loop x ih=>
   intro A j Q s g a w u h
   simp only [qx,Option.map_eq_some_iff] at j
   obtain⟨E,C,rfl⟩:=j
   exact JT (fun Q s g a w u h=>ih E C Q s g a w u h) u h
 | rangeFunc f ps x y _ _=>intro A j;cases j
 | scope x ih=>
   intro A j Q s g a w u h
   simp only [qx] at j
   exact wp_scope_straight (wp_mono (ih A j Q s g a w u h) fun e M N F=>by cases e<;>first | exact F | exact F.elim)
 | goto l=>intro A j;cases j
 | refuse y=>intro A j;cases j
end Go.Proofs.YtonhfknjcbakiaaGreatDoor
