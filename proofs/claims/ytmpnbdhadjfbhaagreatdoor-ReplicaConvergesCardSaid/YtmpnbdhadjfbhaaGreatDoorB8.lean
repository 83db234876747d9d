import Derived.Scope
import Derived.Test.YtmpnbdhadjfbhaaGreatDoorB7
set_option maxHeartbeats 16000000
set_option linter.all false
namespace Go.Proofs.YtmpnbdhadjfbhaaGreatDoor
def T2:=@Go.wp_mono
section
open Go.RowKit
inductive PC where
 |sk
 |rg (l:List PI)
 |dr (h t:List PI)
 |sq (a b:PC)
 |cd (c:PO) (a b:PC)
 |bk (id:Nat) (a:PC)
 |lp (wr:List Nat) (a:PC)
 |ex (id:Nat)
 |rt
 |man (c:Code)
inductive PX where
 |n
 |x (id:Nat)
 |r
def PI.guard(i:PI)(s:PS)(j no:PS->Prop):Prop:=match i.g with
 |none=>j s
 | some (t,b)=>match s.get t with
   |.v (.bool c)=>(c=b->j (s.put (some t) (.v (.bool b))))/\(c=!b->no (s.put (some t) (.v (.bool !b))))
   |.v (.tuple vs)=>vs=#[]/\no s
   |_=>False
def ze(P:Program):List PI->(PS->Prop)->PS->Prop
 |[],K,s=>K s
 |i::l,K,s=>i.guard s (λs=>i.k.e P i.d s (ze P l K)) (λs=>ze P l K (s.put i.d (.v undef)))
def zf(P:Program):List PI->(PS->Prop)->PS->Prop
 |[],K,s=>K s
 |i::l,K,s=>i.guard s (λs=>i.k.q P s λp=>p.own=none/\zf P l K (s.put i.d p)) (λs=>zf P l K (s.put i.d (.v undef)))
def qI(h:List PI)(s:PS):PS:=h.foldl (λs i=>s.put i.d .und) s
def qK(j:List (List PV)):Prop:=∀e∈j,∀p∈e,∃x:Value,p=.v x
def simple1(n:Nat):PV->Prop
 |.v _=>True
 |.sl es (.r m sz)=>m≠n/\qK es/\∀e∈es,e.length=sz
 |_=>False
def keepOk(h:List PI)(n:Nat)(o:PS)(keep:List Nat):Prop:=
 (∀j∈keep,(h.all λi=>!(i.d == some j))=true/\simple1 n (o.get j))/\keep.Pairwise λi j=>(o.get i).own=none\/(o.get i).own≠(o.get j).own
def qZ(P:Program)(fr:Prop)(h:List PI)(u:PS)(t:List PI)(K:PS->Prop)(s:PS):Prop:=match t with
 | ⟨some d,none,.ap (.t x) y sz by_⟩::t'=>match s.get x with
   |.sl es (.n sz')=>sz'=sz/\(h.any λi=>i.d == some x)=true/\QA (s.ev y) λo=>qK es/\qK o/\(∀e∈es,e.length=sz)/\(∀e∈o,e.length=sz)/\(es.length+o.length)*by_<=140737488355328/\o≠[]/\ze P t' K ((qI h u).put (some d) (.sl (es++o) (.r d sz)))
   | .sl es (.p i)=>fr/\(h.any λi=>i.d == some x)=true/\(match u.get i with
     | .sl es0 (.r n sz')=>sz'=sz/\QA (s.ev y) λo=>(∀e∈es,e.length=sz)/\(∀e∈o,e.length=sz)/\(es.length+o.length)*by_<=140737488355328/\o≠[]/\(((qK es/\qK o)/\∃keep,keepOk h n u keep/\ze P t' K ⟨(d,.sl (es++o) (.r n sz))::keep.map (λj=>(j,u.get j)),[]⟩) \/
       ((h.all λy=>!(y.d == some i))=true/\s.get i=u.get i/\es0=es/\(s.put (some x) (.sl es (.r n sz))).ev y=s.ev y/\ze P t' K (((s.put (some x) (.sl es (.r n sz))).down n).put (some d) (.sl (es++o) (.r n sz)))))
     |_=>False)
   |_=>ze P t K s
 |_=>ze P t K s
def JU(nb:Nat):PV->Bool
 |.bx i _=>decide (i<nb)
 |_=>true
def zbe(nb:Nat):PV->Bool
 |.bx i _=>decide (i<nb)
 |.fn _ fs cs=>fs.all (JU nb) && cs.all (JU nb)
 |_=>true
inductive SubP(nb:Nat):PV->PV->Prop where
 |und (p:PV):SubP nb p .und
 |eq (p:PV) (h:zbe nb p=true):SubP nb p p
 |sh (p:PV) (h:zbe nb p=true):SubP nb p p.sh
 |nil (n sz:Nat):SubP nb (.sl [] .z) (.sl [] (.r n sz))
def SubT(nb:Nat)(t:List (Nat×PV)):List (Nat×PV)->Prop
 |[]=>True
 |(i,q)::r=>SubP nb (yr t i) q/\SubT nb t r
inductive SubB(nb:Nat):List (List PV)->List (List PV)->Prop where
 |nil (l:List (List PV)):SubB nb l []
 |cons (cs cs':List PV) (l l':List (List PV)) (h:cs.length=cs'.length) (hc:∀(j:Nat) p q,cs[j]?=some p->cs'[j]?=some q->SubP nb p q) (hl:SubB nb l l'):SubB nb (cs::l) (cs'::l')
def YQ(s s':PS):Prop:=SubT s'.b.length s.t s'.t/\SubB s'.b.length s.b s'.b
def kL(K:PS->Prop)(Q:PX->PS->Prop):PX->PS->Prop
 |.n,s=>K s
 |e,s=>Q e s
def jM(id:Nat)(Q:PX->PS->Prop):PX->PS->Prop
 |.x id',s=>if id'=id then Q .n s else Q (.x id') s
 |e,s=>Q e s
def RA(B:Bs)(nt:Nat)(g:Gh)(s:PS)(a:Act)(w:World):Prop:=R B g s (zB a) w/\a.defers=B.df/\a.tmps.size=nt
def QL(B:Bs)(nt:Nat)(Q:PX->PS->Prop):Exit->Act->World->Prop
 |.normal,a,w=>∃s g,RA B nt g s a w/\Q .n s
 |.exit id,a,w=>∃s g,RA B nt g s a w/\Q (.x id) s
 |.ret,a,w=>∃s g,RA B nt g s a w/\Q .r s
 |_,_,_=>False
def pLoop(o:(PX->PS->Prop)->PS->Prop)(Q:PX->PS->Prop)(s:PS):Prop:=
 ∃(ι:Type) (J:ι->Prop) (S:ι->PS) (m:ι->Nat) (u:ι),J u/\YQ s (S u)/\∀i,J i->o (kL (λs'=>∃j,J j/\m j<m i/\YQ s' (S j)) Q) (S i)
def pW(P:Program)(nt:Nat)(fr:Prop):PC->(PX->PS->Prop)->PS->Prop
 |.sk,Q,s=>Q .n s
 |.rg l,Q,s=>ze P l (Q .n) s
 |.dr h t,Q,s=>zf P h (qZ P fr h s.clean t (Q .n)) s.clean
 |.sq a b,Q,s=>pW P nt fr a (kL (pW P nt fr b Q) Q) s
 |.cd c a b,Q,s=>qV (s.ev c) λt=>(t=true->pW P nt fr a Q s)/\(t=false->pW P nt fr b Q s)
 |.bk id a,Q,s=>pW P nt fr a (jM id Q) s
 |.lp _ a,Q,s=>pLoop (pW P nt fr a) Q s
 |.ex id,Q,s=>Q (.x id) s
 |.rt,Q,s=>Q .r s
 |.man c,Q,s=>∀B g a w,RA B nt g s a w->c.wp P (QL B nt Q) a w
def vd(nt:Nat):Option Nat->Bool
 |some d=>decide (d<nt)
 |none=>true
def zI(P:Program)(nt:Nat)(u:Array Oper):List Oper->Option (List PI)
 |[]=>some []
 | o::l=>(XR P o).bind λk=>(zI P nt u l).bind λr=>
   if vd nt o.dst=true then
    match o.guard with
    |none=>some (⟨o.dst,none,k⟩::r)
    |some (j,b)=>(zJ u j).bind λt=>if t<nt then some (⟨o.dst,some (t,b),k⟩::r) else none
   else none
def wrK:PK->Bool
 |.st _ _ _|.al _|.bo _=>true
 |_=>false
def ko(l:List PI):Nat:=
 let j:=(l.takeWhile λi=>!wrK i.k).length
 let o:=match l.reverse with
  |⟨_,_,.ap _ _ _ _⟩::_=>l.length-1
  |_::⟨_,_,.ap _ _ _ _⟩::_=>l.length-2
  |_=>l.length
 min j o
def Jv(P:Program)(nt:Nat)(l:List Oper):Option PC:=(zI P nt l.toArray l).bind λis=>
 if xk l.toArray (ko is) nt && yK l.toArray (ko is) then some (.dr (is.take (ko is)) (is.drop (ko is))) else none
def zh6(o:Oper):Bool:=match o.op with
 |.store _ _ _|.alloc _|.box _ _=>true
 |_=>false
def Zr:List Oper->List Tmp->List Nat->Nat->List Nat
 |[],_,js,_=>js.reverse
 | o::l,ts,js,i=>
   if zh6 o || (zA o).any ts.contains || (match o.guard with|some (j,_)=>js.contains j|none=>false) || o.after.any (λe=>Region.binds .any e && js.contains e.on)
   then Zr l (match o.dst with|some d=>d::ts|none=>ts) (i::js) (i+1) else Zr l ts js (i+1)
def zk4(l:List Oper):List Nat:=let j:=Zr l [] [] 0;(List.range l.length).filter (λi=>!j.contains i)++j
def zct(P:Program)(nt:Nat)(l:List Oper):Option PC:=(zI P nt l.toArray l).bind λis=>
 match is.drop (ko is)with
 |⟨some _,none,.al _⟩::_=>if xk l.toArray (ko is+1) nt && yK l.toArray (ko is+1) then some (.dr (is.take (ko is)) (is.drop (ko is))) else none
 |_=>none
def zeQ(u:Array Oper)(w nt:Nat):Bool:=
 decide (w+2<=u.size) &&
 ((List.range (w+1)).all λi=>
   match u[i]? with
   |none=>false
   | some o=>((zA o).all (yB u (w+1) i)) &&
     (match o.guard with|none=>true|some (j,_)=>decide (j<i) && edge u i j && (zJ u j).isSome) &&
     (match o.dst with|none=>true|some d=>decide (d<nt) && (List.range (w+1)).all λj=>decide (j=i) || !(zJ u j == some d))) &&
 ((List.range w).all λi=>(List.range (w+2)).any λj=>decide (i<j) && decide (j≠w) && edge u j i) &&
 (decide (w+2=u.size) || edge u (w+2) w)
def jY(d:Nat):PO->Bool
 |.t i=>!(i == d)
 |_=>true
def zkX(l:List Oper)(j d:Nat):Bool:=match l[j]? with
 |some o=>!(zA o).contains d
 |none=>false
def Jw(P:Program)(nt m:Nat)(l:List Oper):Option PC:=(zI P nt l.toArray l).bind λis=>
 match is.drop m with
 | ⟨some d,none,.al zs⟩::⟨some d',none,.ex x i⟩::⟨none,none,.st a b n⟩::t=>
   if zeQ l.toArray (m+1) nt && yK l.toArray (m+2) && !(d == d') && jY d' a && jY d' b && jY d x && zkX l (m+1) d
   then some (.dr (is.take m++[⟨some d',none,.ex x i⟩]) (⟨some d,none,.al zs⟩::⟨none,none,.st a b n⟩::t)) else none
 |_=>none
def zkn(o:Oper):Bool:=match o.op with
 |.extract _ _=>true
 |_=>false
def zfU(l:List Oper)(j:Nat):List Nat:=let o:=Zr l [] [] 0;(List.range l.length).filter (λi=>!o.contains i && !(i == j))++o.take 1++[j]++o.drop 1
def zgQ(l:List Oper)(j:Nat):Bool:=match l[j]? with
 |some o=>zkn o
 |none=>false
def YZ(P:Program)(nt:Nat)(l:List Oper)(j:Nat):Option PC:=if zgQ l j && q9 l.length (zfU l j) then Jw P nt ((zfU l j).length-(Zr l [] [] 0).length-1) (z8 l (zfU l j)) else none
def KM(P:Program)(nt:Nat)(l:List Oper):List Nat->Option PC
 |[]=>none
 | j::r=>match YZ P nt l j with
   |some x=>some x
   |none=>KM P nt l r
def QI:PK->Bool
 |.ex _ _=>true
 |.ln _=>true
 |.bin _ _ _=>true
 |.sc _ _ _ _=>true
 |.cv _ _=>true
 |.not _=>true
 |_=>false
def zck(u:Array Oper)(w r nt:Nat):Bool:=
 decide (1<=r) && decide (w+r+1<=u.size) &&
 ((List.range (w+r)).all λi=>
   match u[i]? with
   |none=>false
   | some o=>((zA o).all (yB u (w+r) i)) &&
     (match o.guard with|none=>true|some (j,_)=>decide (j<i) && edge u i j && (zJ u j).isSome) &&
     (match o.dst with|none=>true|some d=>decide (d<nt) && (List.range (w+r)).all λj=>decide (j=i) || !(zJ u j == some d))) &&
 ((List.range w).all λi=>(List.range (w+r+1)).any λj=>decide (i<j) && !(decide (w<=j) && decide (j<w+r)) && edge u j i) &&
 ((List.range (w+r)).all λi=>!(decide (w<=i) && decide (i+1<w+r)) || edge u (i+1) i) &&
 (decide (w+r+1=u.size) || edge u (w+r+1) (w+r-1))
def zcU(a b:PO)(i:PI):Bool:=i.g.isNone && QI i.k && (match i.d with|some d=>jY d a && jY d b|none=>true)
def zcw(P:Program)(nt m r:Nat)(l:List Oper):Option PC:=(zI P nt l.toArray l).bind λis=>
 match is.drop (m+r)with
 |⟨none,none,.st a b n⟩::t=>if zck l.toArray m r nt && yK l.toArray (m+r) && ((is.drop m).take r).all (zcU a b) then some (.dr (is.take (m+r)) (⟨none,none,.st a b n⟩::t)) else none
 |_=>none
def zfj(l:List Oper):List Nat:=let j:=Zr l [] [] 0;(List.range l.length).filter λi=>!j.contains i && !(edge l.toArray (j.headD 0) i)
def zis(l:List Oper):List Nat:=let j:=Zr l [] [] 0;(List.range l.length).filter (λi=>!j.contains i && !(zfj l).contains i)++zfj l++j
def zcv(P:Program)(nt:Nat)(l:List Oper):Option PC:=if q9 l.length (zis l) then zcw P nt (l.length-(Zr l [] [] 0).length-(zfj l).length) (zfj l).length (z8 l (zis l)) else none
def YW(P:Program)(nt:Nat)(l:List Oper):Option PC:=match Jv P nt l with
 |some x=>some x
 |none=>zct P nt l
def zcu(P:Program)(nt:Nat)(l:List Oper):Option PC:=match YW P nt l with
 |some x=>some x
 | none=>match (if q9 l.length (zk4 l) then YW P nt (z8 l (zk4 l)) else none)with
   |some x=>some x
   | none=>match zcv P nt l with
     |some x=>some x
     |none=>KM P nt l (List.range l.length)
def qx(P:Program)(nt:Nat)(j:List Nat):Code->Option PC
 |.skip=>some .sk
 |.label _=>some .sk
 | .region id ops draw=>if j.contains id then some (.man (.region id ops draw)) else
   match draw with
   |false=>(zI P nt ops ops.toList).map .rg
   |true=>if P.follows .mixedOrders then zcu P nt ops.toList else none
 |.seq a b=>(qx P nt j a).bind λx=>(qx P nt j b).map λy=>.sq x y
 |.cond c a b=>(po c).bind λc=>(qx P nt j a).bind λx=>(qx P nt j b).map λy=>.cd c x y
 |.block id a=>(qx P nt j a).map (.bk id)
 |.loop a=>(qx P nt j a).map (.lp [])
 |.exit id=>some (.ex id)
 |.ret=>some .rt
 |.scope a=>qx P nt j a
 |_=>none
variable {P:Program}{B:Bs}{nt:Nat}{g:Gh}{s:PS}{a:Act}{w:World}{D:Qk}{ρ:Nat->Nat}{nb:Nat}
def Rel1.low{j:Nat}{u:Value}{p:PV}(h:Rel1 D ρ nb w u p)(y:JU j p=true):Rel1 D ρ j w u p:=by
 rcases h with h|⟨i,o,rfl,hi,rfl⟩
 .exact .inl h
 .exact .inr ⟨i,o,rfl,by simpa[JU]using y,rfl⟩
def Rel.low{o:Nat}{u:Value}{p:PV}(h:Rel D ρ nb w u p)(y:zbe o p=true):Rel D ρ o w u p:=by
 rcases h with h|⟨f,H,I,B,A,rfl,rfl,C,E,F,G⟩
 .refine .inl (h.low ?_);cases p<;>first|rfl|exact y
 .simp only[zbe,V0,wK]at y;exact .inr ⟨f,H,I,B,A,rfl,rfl,C,E,λi q j=>(F i q j).low (y.1 q (wL j)),λi q j=>(G i q j).low (y.2 q (wL j))⟩
def zgY{u:Value}(h:Rel D ρ nb w u (.sl [] .z)):∃j,u=.slice j 0 0:=by obtain⟨j,o,C,b,A,f,e,B,y,_⟩:=h.inv_sl;have:=y rfl;exact⟨j,by rw[e,this];rfl⟩
def SubP.rel{o:Nat}{u:Value}{p q:PV}(h:SubP o p q)(y:Rel D ρ nb w u p):Rel D ρ o w u q:=by
 cases h with
 |und=>exact .dat (.und _)
 |eq _ h=>exact y.low h
 |sh _ h=>exact y.sh.low (by cases p<;>first|rfl|exact h)
 |nil n B=>obtain⟨A,rfl⟩:=zgY y;exact .dat (.sl A 0 1 [] _ 0 0 (λ_=>undef) (Zp _) (λh=>by cases h) (X4 _) (λh=>absurd rfl h) (λi e h=>by simp at h) (λj h=>absurd h b6) (λi e j p h=>by simp at h))
def SubP.own{j:Nat}{u:Value}{p q:PV}(h:SubP j p q)(y:Rel D ρ nb w u p)(ho:q.own≠none):q=p\/(zc u=none/\∀D W w,yW D W w u q):=by
 cases h with
 |und=>exact absurd rfl ho
 |eq _ h=>exact .inl rfl
 |sh _ h=>exact absurd p.sh_own ho
 |nil n A=>obtain⟨o,rfl⟩:=zgY y;exact .inr ⟨by cases o<;>rfl,λ_ _ _=>.inl ⟨o,rfl,rfl⟩⟩
def SubT.get{t:List (Nat×PV)}:∀{o:List (Nat×PV)},SubT nb t o->∀i,SubP nb (yr t i) (yr o i)
 |[],_,i=>.und _
 | (j,q)::r,h,i=>by
   by_cases e:j=i
   .subst e;simp only[yr,UJ];exact h.1
   .simp only[yr,Vq e];exact SubT.get h.2 i
def SubB.get{l w:List (List PV)}(h:SubB nb l w):w.length<=l.length/\∀(i:Nat) o,w[i]?=some o->∃u:List PV,l[i]?=some u/\u.length=o.length/\∀(j:Nat) p q,u[j]?=some p->o[j]?=some q->SubP nb p q:=by
 induction h with
 |nil l=>exact⟨b6,λi o h=>by simp at h⟩
 | cons u o l w h A B ih=>
   refine⟨dJ ih.1,λi y hi=>?_⟩;cases i with
   |zero=>simp at hi;subst hi;exact⟨u,rfl,h,A⟩
   |succ i=>simpa using ih.2 i y (dJ hi)
def R.weak{s':PS}{x:Nat->Value}(h:R B g s x w)(hs:YQ s s'):R B g s' x w:=by
 obtain⟨N,L⟩:=hs.2.get;have M:=hs.1.get;have o:∀u q,zQ g s' x w u q->∃p,zQ g s x w u p/\SubP s'.b.length p q:=by
  rintro u q (⟨t,rfl,rfl⟩|⟨i,j,A,y,E,Q⟩)
  .exact⟨_,h.slot t,M t⟩
  .obtain⟨C,e1,e2,J⟩:=L i A y;have F:j<C.length:=(by rw[e2];exact(Zw.1 E).1);exact⟨C[j],.inr ⟨i,j,C,e1,Zv F,Q⟩,J j _ _ (Zv F) E⟩
 refine⟨λt=>(M t).rel (h.slots t),?_,λi j hi F=>h.inj i j a8 a8,?_,?_,?_,h.dlt,λi hi=>h.dbox i a8,h.fr⟩
 .intro i A hi;obtain⟨C,e1,e2,J⟩:=L i A hi;obtain⟨S,Y,e,T,hz,hb⟩:=h.boxes i C e1;refine⟨S,Y,e,T,hz.trans e2,λj q I=>?_⟩;have F:j<C.length:=(by rw[e2];exact(Zw.1 I).1);have:=hb j _ (Zv F);exact⟨(J j _ _ (Zv F) I).rel this.1,this.2⟩
 .intro u q I;by_cases ho:q.own=none
  .exact zr ho
  .obtain⟨p,y,E⟩:=o u q I;rcases E.own (h.slot_rel y) ho with rfl|⟨_,hk⟩
   .exact h.owns u q y
   .exact hk _ _ _
 .intro u q X V b y E H P b1 b2;obtain⟨p,G,K⟩:=o u q y;obtain⟨Z,O,U⟩:=o X V E;rcases K.own (h.slot_rel G) H with rfl|⟨hk,_⟩
  .rcases U.own (h.slot_rel O) P with rfl|⟨hk,_⟩
   .exact h.disj _ _ _ _ b G O H P b1 b2
   .rw[hk]at b2;cases b2
  .rw[hk]at b1;cases b1
 .intro u q b i y H b1 hi;obtain⟨p,G,K⟩:=o u q y;rcases K.own (h.slot_rel G) H with rfl|⟨hk,_⟩
  .exact h.ownbox _ _ b i G H b1 a8
  .rw[hk]at b1;cases b1
def RA.weak{s':PS}(h:RA B nt g s a w)(hs:YQ s s'):RA B nt g s' a w:=⟨h.1.weak hs,h.2⟩
def zD(a:Act)(d:Option Nat)(u:Value):(a.put d u).tmps.size=a.tmps.size/\(a.put d u).defers=a.defers:=by cases d<;>simp[Act.put]
def ZT{c b:Bool}(h:¬c=b):c=!b:=by cases c<;>cases b<;>first|rfl|exact absurd rfl h
def RA.fix(h:RA B nt g s a w){t:Nat}{b:Bool}(ht:t<a.tmps.size)(j:a.tmps.getD t undef=.bool b):RA B nt g (s.put (some t) (.v (.bool b))) a w:=by
 have e:QO (zB a) (some t) (.bool b)=zB a:=by
  funext i;by_cases h:t=i
  .subst h;rw[kN];exact j.symm
  .rw[QP _ _ h]
 refine⟨?_,h.2⟩;have:=h.1.put (some t) (u:=.bool b) (p:=.v (.bool b)) (.dat (.v _)) (.none rfl);rw[e]at this;exact this
def EqS(s s':PS):Prop:=(∀t,s.get t=s'.get t)/\s.b=s'.b
def EqS.refl(s:PS):EqS s s:=⟨λ_=>rfl,rfl⟩
def EqS.put{s s':PS}(h:EqS s s')(d:Option Nat)(p:PV):EqS (s.put d p) (s'.put d p):=by
 cases d with
 |none=>exact h
 | some d=>
   refine⟨λt=>?_,h.2⟩;by_cases e:d=t
   .subst e;rw[zF,zF]
   .rw[zV _ _ e,zV _ _ e];exact h.1 t
def EqS.fix{s s':PS}(h:EqS s s'){t:Nat}{p:PV}(j:s'.get t=p):EqS (s.put (some t) p) s':=by
 refine⟨λi=>?_,h.2⟩;by_cases e:t=i
 .subst e;rw[zF];exact j.symm
 .rw[zV _ _ e];exact h.1 i
def RA.eqS{s s':PS}(h:RA B nt g s a w)(e:EqS s' s):RA B nt g s' a w:=by
 obtain⟨t,b⟩:=s;obtain⟨N,j⟩:=s';obtain⟨e1,e2⟩:=e;simp only at e2;subst e2;obtain⟨⟨o,y,A,C,E,F,G,H,I⟩,J⟩:=h;have hs:∀u p,zQ g ⟨N,j⟩ (zB a) w u p->zQ g ⟨t,j⟩ (zB a) w u p:=λu p h=>by
  rcases h with⟨i,rfl,rfl⟩|h
  .exact .inl ⟨i,rfl,e1 i⟩
  .exact .inr h
 exact⟨⟨λi=>by rw[e1 i];exact o i,y,A,λu p h=>C u p (hs u p h),λu p O M b K L=>E u p O M b (hs _ _ K) (hs _ _ L),λu p b i k=>F u p b i (hs _ _ k),G,H,I⟩,J⟩
def list_sound{A:Array Oper}{Q:PX->PS->Prop}:∀(l:List Oper)(is:List PI)(s:PS)(g:Gh)(a:Act)(w:World),zI P nt A l=some is->ze P is (Q .n) s->RA B nt g s a w ->
 wpList P A (QL B nt Q) l a w
 |[],is,s,g,a,w,y,hq,h=>by cases y;exact⟨s,g,h,hq⟩
 | o::l,is,s,g,a,w,y,hq,h=>by
   simp only[zI,Z3]at y;obtain⟨k,hk,r,K,y⟩:=y;split at y
   .rename_i hd;have G:∀t,o.dst=some t->t<a.tmps.size:=λt ht=>by rw[ht]at hd;rw[h.2.2];simpa[vd]using hd
    -- the operation,carried out
    have run:∀s,RA B nt g s a w->k.e P o.dst s (ze P r (Q .n))->o.wp P a w (wpList P A (QL B nt Q) l) (QL B nt Q):=λs h J=>(by refine ZO hk G h.1 J _ _ λs' L u O M N=>?_;exact list_sound l r s' L _ O K M ⟨N,by rw[(zD _ _ _).2];exact h.2.1,by rw[(zD _ _ _).1];exact h.2.2⟩);have skip:∀s,RA B nt g s a w->ze P r (Q .n) (s.put o.dst (.v undef))->wpList P A (QL B nt Q) l (a.put o.dst undef) w:=λs h J=>(by refine list_sound l r _ g _ w K J ⟨?_,by rw[(zD _ _ _).2];exact h.2.1,by rw[(zD _ _ _).1];exact h.2.2⟩;rw[zN G];exact h.1.put o.dst (.dat (.v _)) (.none rfl));unfold wpList;split at y
    .rename_i hg;cases y;simp only[Region.wanted,hg,UJ];exact .inl (run s h hq)
    .rename_i j b hg;simp only[Z3]at y;obtain⟨t,ht,y⟩:=y;split at y
     .rename_i htn;cases y;have F:t<a.tmps.size:=(by rw[h.2.2];exact htn);have I:=yS ht F;simp only[ze,PI.guard]at hq;have hrel:=h.1.slots t;split at hq
      .rename_i c e;rw[e]at hrel;have H:a.tmps.getD t undef=.bool c:=hrel.v_inv;rw[H]at I;by_cases E:c=b
       .subst E;rw[vD (by simp[Region.wanted,hg,I])];exact .inl (run _ (h.fix F H) (hq.1 rfl))
       .rw[Vq (by simp[Region.wanted,hg,I,E])];have C:=ZT E;exact skip _ (h.fix F (by rw[H,C])) (hq.2 C)
      .rename_i vs e;rw[e]at hrel;have H:a.tmps.getD t undef=.tuple vs:=hrel.v_inv;rw[H]at I;rw[Vq (by simp[Region.wanted,hg,I])];exact skip _ h hq.2
      .exact hq.elim
     .cases y
   .cases y
def VN(o:Nat->Value)(j:Nat)(D:Qk)(ρ:Nat->Nat)(nb:Nat)(p:PV):VP:=λu w=>Rel D ρ nb w u p/\NewOk o j w u p
def qq(u:Nat->Value)(j:Nat)(D:Qk)(ρ:Nat->Nat)(nb:Nat)(o:List (Option Nat×PV)):List (Option Tmp×VP):=o.map λy=>(y.1,VN u j D ρ nb y.2)
def zy(s:PS)(j:List (Option Nat×PV)):PS:=j.foldl (λs y=>s.put y.1 y.2) s
def ke(j:List (Option Nat×PV)):Prop:=j.Pairwise λx y=>x.1=none\/x.1≠y.1
def zaq(s:PS)(d:Option Nat)(p:PV):(s.put d p).b=s.b:=by cases d<;>rfl
def qp:∀(j:List (Option Nat×PV))(s:PS),(zy s j).b=s.b
 |[],_=>rfl
 |(d,p)::j,s=>(qp j (s.put d p)).trans (zaq s d p)
def qt{t:Nat}:∀(j:List (Option Nat×PV))(s:PS),(∀x∈j,x.1≠some t)->(zy s j).get t=s.get t
 |[],_,_=>rfl
 | (d,p)::j,s,h=>by
   have o:=qt j (s.put d p) λx w=>h x (by simp[w]);have u:=h (d,p) b6;rw[show zy s ((d,p)::j)=zy (s.put d p) j from rfl,o];cases d with
   |none=>rfl
   |some d=>exact zV s p λe=>u (by rw[e])
def kZ{x0:Nat->Value}{n0 t:Nat}:∀(j:List (Option Nat×PV))(s:PS),ke j->(∃p,(some t,p)∈j/\lk (qq x0 n0 D ρ nb j) t=some (VN x0 n0 D ρ nb p)/\(zy s j).get t=p)\/(lk (qq x0 n0 D ρ nb j) t=none/\(zy s j).get t=s.get t)
 |[],s,_=>.inr ⟨rfl,rfl⟩
 | (d,p)::j,s,h=>by
   have w:=V3.1 h;by_cases e:d=some t
   .subst e;refine .inl ⟨p,b6,by simp[qq,lk],?_⟩;rw[show zy s ((some t,p)::j)=zy (s.put (some t) p) j from rfl,qt]
    .exact zF s t p
    .intro x B e;rcases w.1 x B with o|o
     .cases o
     .exact o e.symm
   .rcases kZ (t:=t) j (s.put d p) w.2 with⟨q,o,u,A⟩|⟨o,u⟩
    .exact .inl ⟨q,by simp[o],by simpa[qq,lk,e]using u,A⟩
    .refine .inr ⟨by simpa[qq,lk,e]using o,?_⟩;rw[show zy s ((d,p)::j)=zy (s.put d p) j from rfl,u];cases d with
     |none=>rfl
     |some d=>exact zV s p λy=>e (by rw[y])
def YK(s:PS)(j:List (Option Nat×PV))(d:Option Nat)(p:PV):zy s (j++[(d,p)])=(zy s j).put d p:=by simp[zy,WW]
def JC{o:Nat->Value}{j:Nat}(u:List (Option Nat×PV))(d:Option Nat)(p:PV):qq o j D ρ nb (u++[(d,p)])=qq o j D ρ nb u++[(d,VN o j D ρ nb p)]:=by simp[qq]
def qu{w j:World}(h:Keep qe w j):Below w.heap.size w j:=h.below (Zp _) λ_ _=>id
def Rel.nob{w y:World}{u:Value}{p:PV}(h:Rel D ρ nb w u p)(hk:Keep qe w y):Rel D ρ nb y u p:=h.mono (λ_ _ h=>h) (λb o x _ j=>qa (qu hk) (qF j) j) (Zp _) λ_ _=>rfl
def kS{Q:Nat->Value}{P:Nat}{F:Act->World->Prop}{I:Qk}:∀(y:List (Option Nat×PV))(s:PS)(a:Act),ke y->(∀x∈y,x.2.own=none)->(∀x∈y,∀d,x.1=some d->d<nt)->(∀b o,(D b o/\b<w.heap.size)->I b o)->RA B nt ⟨I,ρ⟩ s a w->s.b.length=nb ->
 (∀C,RA B nt ⟨I,ρ⟩ (zy s y) C w->(∀t p,(some t,p)∈y->NewOk Q P w (zB C t) p)->(∀t,(∀x∈y,x.1≠some t)->zB C t=zB a t)->F C w)->finG F w (qq Q P D ρ nb y) a
 |[],s,a,_,_,_,_,h,_,hF=>hF a h (λt p h=>by cases h) λ_ _=>rfl
 |(none,p)::y,s,a,h0,h1,h2,h3,h,hb,hF=>kS y s a (V3.1 h0).2 (λx j=>h1 x (by simp[j])) (λx j=>h2 x (by simp[j])) h3 h hb λC M N H=>hF C M (λt q A=>N t q (by
     rcases wi.1 A with A|A
     .cases A
     .exact A)) (λt ht=>H t λx j=>ht x (by simp[j]))
 | (some d,p)::y,s,a,h0,h1,h2,h3,h,hb,hF=>by
   intro u O;have S:=h2 (some d,p) b6 d rfl;have G:=V3.1 h0;have J:d<a.tmps.size:=(by rw[h.2.2];exact S);have E:zB (a.put (some d) u)=QO (zB a) (some d) u:=zN (by intro t ht;cases ht;exact J);have K:∀x∈y,x.1≠some d:=λx j e=>by
    rcases G.1 x j with h|h
    .cases h
    .exact h e.symm
   refine kS y (s.put (some d) p) _ G.2 (λx j=>h1 x (by simp[j])) (λx j=>h2 x (by simp[j])) h3 ⟨?_,by rw[(zD _ _ _).2];exact h.2.1,by rw[(zD _ _ _).1];exact h.2.2⟩ (by rw[zaq];exact hb) λC M N H=>hF C M (λt q A=>?_) λt ht=>?_
   .rw[E];have L:Rel D ρ nb w u p:=O.1;refine h.1.put (some d) ?_ (.none (h1 (some d,p) b6));rw[hb];exact L.restrict.mono h3 (λ_ _ _ _ h=>h) (Zp _) λ_ _=>rfl
   .rcases wi.1 A with A|A
    .cases A;rw[H d K,E,kN];exact O.2
    .exact N t q A
   .rw[H t λx j=>ht x (by simp[j]),E];exact QP _ _ λe=>ht (some d,p) b6 (by rw[e])
def R.slotsU{s:PS}{x A:Nat->Value}(h:R B g s x w)(C:∀t,s.get t=.und\/A t=x t):R B g s A w:=by
 have hs:∀u p,zQ g s A w u p->p.own≠none->zQ g s x w u p:=λu p j ho=>by
  rcases j with⟨t,rfl,rfl⟩|j
  .rcases C t with h|h
   .rw[h]at ho;exact absurd rfl ho
   .exact .inl ⟨t,h,rfl⟩
  .exact .inr j
 refine⟨λt=>?_,h.boxes,h.inj,λu p j=>?_,λu p I H b F G o E=>h.disj u p I H b (hs _ _ F o) (hs _ _ G E) o E,λu p b i k o=>h.ownbox u p b i (hs _ _ k o) o,h.dlt,h.dbox,h.fr⟩
 .rcases C t with y|y
  .rw[y];exact .dat (.und _)
  .rw[y];exact h.slots t
 .by_cases ho:p.own=none
  .exact zr ho
  .exact h.owns _ _ (hs _ _ j ho)
def Z6:∀(h:List PI)(s:PS)(t:Nat),(qI h s).get t=.und\/((qI h s).get t=s.get t/\∀i∈h,i.d≠some t)
 |[],s,t=>.inr ⟨rfl,λi h=>by cases h⟩
 | i::h,s,t=>by
   rcases Z6 h (s.put i.d .und) t with e|⟨e,k⟩
   .exact .inl e
   .by_cases o:i.d=some t
    .left;rw[show qI (i::h) s=qI h (s.put i.d .und) from rfl,e,o,zF]
    .right;refine⟨?_,λj u=>?_⟩
     .rw[show qI (i::h) s=qI h (s.put i.d .und) from rfl,e];cases hdd:i.d with
      |none=>rfl
      |some d=>exact zV s .und λw=>o (by rw[hdd,w])
     .rcases wi.1 u with rfl|u
      .exact o
      .exact k j u
def yM:∀(h:List PI)(s:PS),(qI h s).b=s.b
 |[],_=>rfl
 |i::h,s=>(yM h (s.put i.d .und)).trans (zaq s i.d .und)
def R.forget{h:List PI}{s:PS}{x G:Nat->Value}(o:R B g s x w)(I:∀t,(∀i∈h,i.d≠some t)->G t=x t):R B g (qI h s) G w:=by
 have E:∀t,(Go.Proofs.YtmpnbdhadjfbhaaGreatDoor.qI h s).get t=.und\/((Go.Proofs.YtmpnbdhadjfbhaaGreatDoor.qI h s).get t=s.get t/\∀i∈h,i.d≠some t):=Z6 h s;have M:R B g (Go.Proofs.YtmpnbdhadjfbhaaGreatDoor.qI h s) x w:=by
  have hs:∀u p,zQ g (Go.Proofs.YtmpnbdhadjfbhaaGreatDoor.qI h s) x w u p->p.own≠none->zQ g s x w u p:=λu p A ho=>by
   rcases A with⟨t,rfl,rfl⟩|A
   .rcases E t with h|h
    .rw[h]at ho;exact absurd rfl ho
    .exact .inl ⟨t,rfl,h.1⟩
   .rw[yM]at A;exact .inr A
  refine⟨λt=>?_,λi H hi=>?_,λi j=>by rw[yM];exact o.inj i j,λu p A=>?_,λu p N L b J K C F=>o.disj u p N L b (hs _ _ J C) (hs _ _ K F) C F,λu p b i k C b1 hi=>o.ownbox u p b i (hs _ _ k C) C b1 (by rw[yM]at hi;exact hi),o.dlt,λi hi=>o.dbox i (by rw[yM]at hi;exact hi),o.fr⟩
  .rw[yM];rcases E t with y|y
   .rw[y];exact .dat (.und _)
   .rw[y.1];exact o.slots t
  .rw[yM]at hi⊢;exact o.boxes i H hi
  .by_cases ho:p.own=none
   .exact zr ho
   .exact o.owns _ _ (hs _ _ A ho)
 refine M.slotsU λt=>?_;rcases E t with y|y
 .exact .inl y
 .exact .inr (I t y.2)
def kj{E:Qk}{G:World}{y:Nat}{A:List Value}{o:List (List PV)}(h:RowD D w y A o)(F:qK o):RowD E G y A o:=by refine⟨h.1,h.2.1,h.2.2.1,λi e j p B C=>?_⟩;obtain⟨x,rfl⟩:=F e (wL B) p (wL C);have:=h.2.2.2 i e j _ B C;generalize A.getD (i*y+j) undef=u at this⊢;cases this;exact .v _
def zmh{o:Oper}{x y:Operand}{t e:TypeId}{i:TypeInfo}{z:Value}{S:Nat}(h:ApOp P o x y t e i z){B A:List (List PV)}{k:Ow}(hx:Rel D ρ nb w (a.eval x) (.sl B (.n i.size))){x0:Nat->Value}(hN:NewOk x0 S w (a.eval x) (.sl B (.n i.size)))(hy:Rel D ρ nb w (a.eval y) (.sl A k))(Y:S<=w.heap.size)
 (h1:∀e∈B,e.length=i.size) (h2:∀e∈A,e.length=i.size) (ae:(B.length+A.length)*i.bytes<=140737488355328) (Z:A≠[]) :
 ∃H u K Q F O,(execOp a.eval o).run P w=.ok (.value (.slice (some ⟨H,0,none⟩) (B++A).length u)) O/\S<=H/\Below S w O/\O.heap[H]?=some (.cells K Q (0,0))/\(B++A).length<=u/\u<=maxLen/\K.size=u*i.size /\
  RowD D w i.size F (B++A)/\∀j,j<F.length->K[j]?=some (F.getD j undef):=by
 obtain⟨ad,J,F,e1,c1,c2,_,r1,g1⟩:=sl_row hx h1;obtain⟨aj,u,E,e2,d1,d2,_,T,g2⟩:=sl_row hy h2;obtain⟨b',ac,rfl,g3⟩:=g2 Z;have ai:0<A.length:=wV.2 Z;have L:∀j v,E[j]?=some v->w.cell? ((⟨b',ac,none⟩:Addr).add j)=some v:=λj v hv=>by rw[zh];exact(g3 j v hv).2
 have M:B.length≠0->∃b,ad=some b/\∀j v,F[j]?=some v->w.cell? (b.add j)=some v:=λhn=>by obtain⟨b,ah,rfl,g4⟩:=g1 (by intro e;subst e;simp at hn);exact⟨_,rfl,λj v hv=>by rw[zh];exact(g4 j v hv).2⟩
 have grow:J<B.length+A.length->(ad=none->J=0)->∃H u K Q F O,(execOp a.eval o).run P w=.ok (.value (.slice (some ⟨H,0,none⟩) (B++A).length u)) O/\S<=H/\Below S w O/\O.heap[H]?=some (.cells K Q (0,0))/\(B++A).length<=u/\u<=maxLen/\K.size=u*i.size /\
  RowD D w i.size F (B++A)/\∀j,j<F.length->K[j]?=some (F.getD j undef):=λU ab=>by
  obtain⟨cp,K,hr,k1,k2,k3,k4⟩:=yJ (P:=P) (w:=w) (ty:=o.type) (c:=u) h.ht h.hi h.hz h.hzs h.hb r1.1 T.1 M ab L U ae;refine⟨w.heap.size,cp,K,e,F++E,_,by rw[wj];exact h.run e1 e2 hr,Y,(qk w _).mono Y,tn w.drew _,dJ k1,k2,k3,r1.append T,k4⟩
 rcases hN with⟨ak,hu⟩|⟨H,cp,G,Q,hg,hu,hh,V⟩
 .rw[e1]at hu;injection hu with h5 h6 h7;refine grow a8 λhn=>?_;by_cases he:B=[]
  .subst he;simpa using h7
  .obtain⟨b,ah,e,_⟩:=g1 he;rw[hn]at e;cases e
 .rw[e1]at hu;injection hu with h5 h6 h7;subst h5;subst h7;by_cases C:B.length+A.length<=J
  .have X:B.length*i.size+E.length<=G.size:=(by rw[T.1,V,<-WY];exact Wq _ C);have hr:=vm (P:=P) (w:=w) (ty:=o.type) (c:=u) h.ht h.hi hh T.1 L (Xv T) C X;obtain⟨new,N⟩:=xt ((G.toList.take (B.length*i.size)++E++G.toList.drop (B.length*i.size+E.length)).toArray);rw[N]at hr;have ag:F.length=B.length*i.size:=r1.1;refine⟨H,J,new,Q,F++E,w.setRow H new,by rw[wj];exact h.run e1 e2 hr,hg,⟨rfl,rfl,rfl,b6,λk hk=>Tl w _ _ new a8⟩,TJ w H G new Q (0,0) hh,dJ C,c2,by rw[<-V,<-N];simp;omega,r1.append T,λj hj=>?_⟩;have ht:(G.toList.take (B.length*i.size)).length=B.length*i.size:=a9;rw[<-N];simp only[wF];rw[wj]at hj;rw[vw,wQ];by_cases h1:j<B.length*i.size
   .have I:j<F.length:=a8;have af:B.length≠0:=(by intro e;rw[e]at h1;omega);obtain⟨b,eb,hb⟩:=M af;cases eb;have:=hb j _ (Zv I);rw[zh]at this;simp only[World.cell?,hh,wn]at this;rw[wh a8,wt,vD h1,wh I,Zv I];simpa using this
   .rw[V2 a8,ht,wh a8,V2 a8,ag];have I:j-B.length*i.size<E.length:=a8;rw[Zv I];rfl
  .exact grow a8 λh=>by cases h
def JS{x0:Nat->Value}{n0 t:Nat}:∀(j:List (Option Nat×PV))(p:PV),(some t,p)∈j->lk (qq x0 n0 D ρ nb j) t≠none
 | y::j,p,h=>by
   by_cases e:y.1=some t
   .simp[qq,lk,e]
   .rcases wi.1 h with h|h
    .rw[<-h]at e;exact absurd rfl e
    .have:=JS (x0:=x0) (n0:=n0) j p h;simpa[qq,lk,e]using this
def Z8{X:Array Oper}{Q:Exit->Act->World->Prop}{F:Act->World->Prop}{s0:PS}{a0:Act}{w0:World}{nh:Nat}(J:xk X nh nt=true){K:PS->Prop}
 (h0:∀w,Keep qe w0 w->∀t,Rel D ρ s0.b.length w (a0.tmps.getD t undef) (s0.get t)) (Z:∀w,Keep qe w0 w->∀(i:Nat) cs,s0.b[i]?=some cs->zaA ⟨D,ρ⟩ s0.b.length w i cs) (ak:∀w,Keep qe w0 w->GL D w) (ab:∀b o,w0.heap.size<=b->D b o) (ag:∀t,(s0.get t).isN=false)
 (hF:∀A w,Keep qe w0 w->ke A->A.length=nh->(∀(j:Nat) x,A[j]?=some x->x.1=zJ X j)->(∀x∈A,x.2.own=none)->(∀x∈A,∀d,x.1=some d->d<nt)->(∃s',EqS s' (zy s0 A)/\K s')->finG F w (qq (zB a0) w0.heap.size D ρ s0.b.length A) a0) :
 ∀(l:List Oper)(is:List PI)(A:List (Option Nat×PV))(s':PS),EqS s' (zy s0 A)->zI P nt X l=some is->A.length+l.length=nh->(∀j,j<l.length->X[A.length+j]?=l[j]?)->(∀(j:Nat) x,A[j]?=some x->x.1=zJ X j)->ke A->(∀x∈A,x.2.own=none) ->
  zf P is K s'->walkG qe (xC P Q) a0 w0 (λw=>Keep qe w0 w) F l (qq (zB a0) w0.heap.size D ρ s0.b.length A)
 |[],is,A,s',B,E,hl,ho,hd,hdd,hown,T=>by cases E;intro w hw _;refine hF A w hw hdd (dJ hl) hd hown (λx L d ae=>?_) ⟨s',B,T⟩;obtain⟨j,I⟩:=wI L;have ay:j<nh:=(by have:=(Zw.1 I).1;simp at hl;omega);obtain⟨o,ho,_,_,h3,_⟩:=chk_at J ay;have:=hd j x I;rw[ae]at this;unfold zJ at this;rw[ho]at this;exact(h3 d this.symm).1
 | o::l,is,A,s',B,E,hl,ho,hd,hdd,hown,T=>by
   simp only[zI,Z3]at E;obtain⟨k,hk,r,hr,E⟩:=E;split at E
   .rename_i hdk;simp only[wv]at hl;have hi:A.length<nh:=a8;obtain⟨C,ad,_,ax,aw,_⟩:=chk_at J hi;have aC:C=o:=by have:=ho 0 b6;simp only[ud,Uk]at this;rw[this]at ad;exact(wA ad).symm
    subst aC
    -- going on
    have next:∀(s':PS)(p:PV),EqS s' (zy s0 A)->p.own=none->zf P r K (s'.put C.dst p)->walkG qe (xC P Q) a0 w0 (λw=>Keep qe w0 w) F l (qq (zB a0) w0.heap.size D ρ s0.b.length A++[(C.dst,VN (zB a0) w0.heap.size D ρ s0.b.length p)]):=λs' p B hp aE=>by
     rw[<-JC];refine Z8 J h0 Z ak ab ag hF l r (A++[(C.dst,p)]) (s'.put C.dst p) (by rw[YK];exact B.put _ _) hr a9 (λj I=>?_) (λj x I=>?_) ?_ (λx L=>?_) aE
     .have:=ho (j+1) (dJ I);simp only[uM]at this;rw[<-this];congr 1;simp;omega
     .rcases wJ j A.length with h'|h'
      .rw[wh h']at I;exact hd j x I
      .rw[V2 h']at I;have e:j-A.length=0:=(by have:=(Zw.1 I).1;simp at this;omega);rw[e]at I;simp at I;subst I;have:j=A.length:=a8;subst this;unfold zJ;rw[ad];rfl
     .refine Ua.2 ⟨hdd,b6,λx L y hy=>?_⟩;simp at hy;subst hy;obtain⟨j,I⟩:=wI L;cases ae:x.1 with
      |none=>exact .inl rfl
      |some d=>refine .inr λe=>?_;have aH:=(Zw.1 I).1;have:=(aw d e.symm).2 j a8 ((hd j x I).symm.trans ae);omega
     .rcases wC.1 L with L|L
      .exact hown x L
      .simp at L;subst L;exact hp
    -- what is read
    have rd:∀s',EqS s' (zy s0 A)->∀a w,Keep qe w0 w->Rds (qq (zB a0) w0.heap.size D ρ s0.b.length A) a0 (zA C) a w->Rd D ρ s' (zB a) (zA C) w:=λs' B a w hw G=>by
     refine⟨λt ht=>?_,λi cs ah=>?_,ak _ hw⟩
     ·rw [B.2,qp,B.1];revert ht;generalize zA C=ts at G⊢;induction ts with
      |nil=>intro ht;cases ht
      | cons t' ts ih=>
        intro ht;obtain⟨H,h2⟩:=G;rcases wi.1 ht with rfl|ht
        .rcases kZ (x0:=zB a0) (n0:=w0.heap.size) (D:=D) (ρ:=ρ) (nb:=s0.b.length) (t:=t) A s0 hdd with⟨p,_,e1,e2⟩|⟨e1,e2⟩
         .rw[e1]at H;obtain⟨u,hu,hv⟩:=H;rw[e2];have:zB a t=u:=hu.2.1;rw[this];exact hv.1
         .rw[e1]at H;rw[e2];have:zB a t=a0.tmps.getD t undef:=H.2.1;rw[this];exact h0 w hw t
        .exact ih h2 ht
     .rw[B.2,qp]at ah⊢;exact Z w hw i cs ah
    have nw:∀s',EqS s' (zy s0 A)->∀a w,Keep qe w0 w->Rds (qq (zB a0) w0.heap.size D ρ s0.b.length A) a0 (zA C) a w->zbZ (zB a0) w0.heap.size s' (zB a) (zA C) w:=λs' B a w hw G=>by
     refine⟨hw.size,λt ht=>?_⟩;rw[B.1];revert ht;generalize zA C=ts at G⊢;induction ts with
     |nil=>intro ht;cases ht
     | cons t' ts ih=>
       intro ht;obtain⟨H,h2⟩:=G;rcases wi.1 ht with rfl|ht
       .rcases kZ (x0:=zB a0) (n0:=w0.heap.size) (D:=D) (ρ:=ρ) (nb:=s0.b.length) (t:=t) A s0 hdd with⟨p,aD,e1,e2⟩|⟨e1,e2⟩
        .rw[e1]at H;obtain⟨u,hu,hv⟩:=H;rw[e2];have:zB a t=u:=hu.2.1;rw[this];exact⟨hv.2,λho=>absurd (hown _ aD) ho⟩
        .rw[e1]at H;rw[e2];have:zB a t=a0.tmps.getD t undef:=H.2.1;exact⟨xA (ag t),λ_=>this.symm⟩
       .exact ih h2 ht
    have run:∀s',EqS s' (zy s0 A)->(k.q P s' λp=>p.own=none/\zf P r K (s'.put C.dst p))->∃p:PV,p.own=none/\headOk qe (xC P Q) a0 w0 (λw=>Keep qe w0 w) (qq (zB a0) w0.heap.size D ρ s0.b.length A) C (VN (zB a0) w0.heap.size D ρ s0.b.length p)/\zf P r K (s'.put C.dst p):=λs' B N=>by
     obtain⟨p,H,h2⟩:=zat k _ N;obtain⟨hp,H⟩:=H;refine⟨p,hp,?_,H⟩;intro a w E ac aq K2 au;obtain⟨p',rfl,_,aF⟩:=y9 hk (rd s' B a w ac aq) h2;refine aF K2 Q λu w' hb hrel aA=>?_;have an:Keep qe w w':=Keep.of_below' hb (Zp _);refine au u w' an (E.trans an) ?_;rw[B.2,qp]at hrel;refine⟨hrel.mono (λb o h=>?_) (λ_ _ _ _ h=>h) (Zp _) λ_ _=>rfl,aA _ _ (nw s' B a w ac aq)⟩;rcases h with h|h
     .exact h
     .exact ab b o (V1 ac.size h)
    have ar:∀s',EqS s' (zy s0 A)->(k.q P s' λp=>p.own=none/\zf P r K (s'.put C.dst p))->∀U:∀V:VP,headOk qe (xC P Q) a0 w0 (λw=>Keep qe w0 w) (qq (zB a0) w0.heap.size D ρ s0.b.length A) C V->stepOk qe (xC P Q) a0 w0 (λw=>Keep qe w0 w) (qq (zB a0) w0.heap.size D ρ s0.b.length A) C V,
     walkG qe (xC P Q) a0 w0 (λw=>Keep qe w0 w) F (C::l) (qq (zB a0) w0.heap.size D ρ s0.b.length A):=λs' B N U=>by
     obtain⟨p,H,h2,h3⟩:=run s' B N;exact⟨_,λu w w' h hk=>⟨h.1.nob hk,h.2.mono (Zp _) λk az=>hk.block k az λh=>h⟩,U _ h2,next s' p B H h3⟩
    have no:∀s',EqS s' (zy s0 A)->zf P r K (s'.put C.dst (.v undef))->∀U:stepOk qe (xC P Q) a0 w0 (λw=>Keep qe w0 w) (qq (zB a0) w0.heap.size D ρ s0.b.length A) C (λu _=>u=undef),
     walkG qe (xC P Q) a0 w0 (λw=>Keep qe w0 w) F (C::l) (qq (zB a0) w0.heap.size D ρ s0.b.length A):=λs' B N U=>by
     have hV:VN (zB a0) w0.heap.size D ρ s0.b.length (.v undef)=fun(u:Value) (_:World)=>u=undef:=(by funext u w;exact propext ⟨λh=>h.1.v_inv,λh=>by subst h;exact⟨.dat (.v _),trivial⟩⟩);have:=next s' (.v undef) B rfl N
     rw[hV]at this;exact⟨_,λu w w' h hk=>h,U,this⟩
    split at E
    .rename_i hg;cases E;exact ar s' B T λV hV=>by unfold stepOk;rw[hg];exact hV
    .rename_i j b hg;simp only[Z3]at E;obtain⟨t,ht,E⟩:=E;split at E
     .rename_i htn;cases E;obtain⟨am,_,_⟩:=ax j b hg;have aj:∃p,(qq (zB a0) w0.heap.size D ρ s0.b.length A)[j]?=some (some t,VN (zB a0) w0.heap.size D ρ s0.b.length p)/\(zy s0 A).get t=p:=by
       have L:=Zv am;have ai:=hd j _ L;rw[ht]at ai;have hm:A[j]=(some t,A[j].2):=Um ai rfl;refine⟨A[j].2,by unfold qq;rw[wk,L,hm];rfl,?_⟩;rcases kZ (x0:=zB a0) (n0:=w0.heap.size) (D:=D) (ρ:=ρ) (nb:=s0.b.length) (t:=t) A s0 hdd with⟨p,S,_,e2⟩|⟨e1,_⟩
       .obtain⟨j',M⟩:=wI S;have aG:=(Zw.1 M).1;obtain⟨oj,aB,_,_,av,_⟩:=chk_at J (show j<nh by omega);have:j'=j:=(av t (by have:=ht;unfold zJ at this;rw[aB]at this;exact this)).2 j' a8 (hd j' _ M).symm;subst this;rw[L]at M;simp only[wN]at M;rw[e2,M]
       .exfalso;have ao:(some t,A[j].2)∈A:=(by rw[<-hm];exact Y1 am);exact JS A _ ao e1
      obtain⟨p,S,Y⟩:=aj;simp only[zf,PI.guard]at T;split at T
      .rename_i c e;rw[B.1,Y]at e;subst e;by_cases af:c=b
       .subst af;refine ar _ (B.fix Y) (T.1 rfl) λV hV=>?_;unfold stepOk;rw[hg];refine .inl ⟨?_,hV⟩;unfold isV;rw[S];exact λu w h=>h.1.v_inv
       .have O:=ZT af;refine no _ (B.fix (by rw[Y,O])) (T.2 O) ?_;unfold stepOk;rw[hg];refine .inr ⟨.inl ?_,rfl⟩;unfold isV;rw[S];intro u w h;rw[<-O];exact h.1.v_inv
      .rename_i vs e;rw[B.1,Y]at e;subst e;obtain⟨rfl,T⟩:=T;refine no s' B T ?_;unfold stepOk;rw[hg];refine .inr ⟨.inr ?_,rfl⟩;unfold isV;rw[S];exact λu w h=>h.1.v_inv
      .exact T.elim
     .cases E
   .cases E
def kd(s:PS)(keep:List Nat):PS:=⟨keep.map λj=>(j,s.get j),[]⟩
def kV(s:PS)(t:Nat):∀keep:List Nat,(kd s keep).get t=if t∈keep then s.get t else .und
 |[]=>rfl
 | j::l=>by
   have ih:=kV s t l;show yr ((j,s.get j)::l.map λj=>(j,s.get j)) t=_;by_cases e:j=t
   .subst e;simp[yr]
   .have o:¬t=j:=λh=>e h.symm;simp only[yr,Vq e,wi,o,false_or];exact ih
def R.kl{n:Nat}{s:PS}{x E:Nat->Value}(h:R B g s x w)(keep:List Nat)(A:∀j∈keep,simple1 n (s.get j))(F:∀j∈keep,E j=x j):R B g (kd s keep) E w:=by
 have hs:∀u p,zQ g (kd s keep) E w u p->p.own≠none->zQ g s x w u p:=λu p o ho=>by
  rcases o with⟨t,rfl,rfl⟩|⟨i,j,H,I,_⟩
  .rw[kV]at ho⊢;split at ho
   .rename_i hm;rw[vD hm];exact .inl ⟨t,F t hm,rfl⟩
   .exact absurd rfl ho
  .simp[kd]at I
 refine⟨λt=>?_,λi H hi=>by simp[kd]at hi,λi j hi=>by simp[kd]at hi,λu p o=>?_,λu p M L b J K C G=>h.disj u p M L b (hs _ _ J C) (hs _ _ K G) C G,λu p b i k C b1 hi=>by simp[kd]at hi,h.dlt,λi hi=>by simp[kd]at hi,h.fr⟩
 .rw[kV];split
  .rename_i hm;rw[F t hm];have hrel:=h.slots t;have y:=A t hm;have:(s.get t).isD=true:=by
    revert y;cases s.get t<;>intro h<;>first|rfl|exact h.elim
   exact .dat (hrel.data this)
  .exact .dat (.und _)
 .by_cases ho:p.own=none
  .exact zr ho
  .exact h.owns _ _ (hs _ _ o ho)
def ze1{fr:Prop}{o:Oper}{x y:Operand}{t e:TypeId}{T:TypeInfo}{z:Value}{G:World}{Y:Act}{H bt C:List (List PV)}{n i len E d:Nat}{k:Ow}{keep:List Nat}{ad:Option Addr}{D2:Qk}{x0:Nat->Value}
 (aX:fr) (bC:fr->∀k,¬B.Sb k) (h:R B g s x0 w) (hb:Below w.heap.size w G) (hA:ApOp P o x y t e T z) (bn:Y.eval x=.slice ad H.length E) (bH:Rel D2 ρ nb G (Y.eval y) (.sl C k)) (aN:s.get i=.sl bt (.r n T.size)) (p1:x0 i=.slice ad len E)
 (hrx:Rel D2 ρ nb G (.slice ad H.length E) (.sl H (.p i))) (f1:qK H) (f2:qK C) (f3:∀e∈H,e.length=T.size) (f4:∀e∈C,e.length=T.size) (f5:(H.length+C.length)*T.bytes<=140737488355328) (f6:C≠[])
 (bG:keep.Pairwise λi j=>(s.get i).own=none\/(s.get i).own≠(s.get j).own) (aP:∀j∈keep,simple1 n (s.get j)) (am:∀j∈keep,zB Y j=x0 j) :
 ∃g2 w2 u,(execOp Y.eval o).run P G=.ok (.value u) w2/\R B g2 ⟨(d,.sl (H++C) (.r n T.size))::keep.map (λj=>(j,s.get j)),[]⟩ (QO (zB Y) (some d) u) w2:=by
 obtain⟨bR,bK,vs,e1,c1,c2,_,r1,g1⟩:=sl_row (sz:=T.size) hrx f3;injection e1 with q1 q2 q3;subst q1;subst q3;obtain⟨bQ,aB,X,e2,d1,d2,_,r2,g2⟩:=sl_row bH f4;obtain⟨b',bp,rfl,g3⟩:=g2 f6;have bO:0<C.length:=wV.2 f6;have aL:H++C≠[]:=λe=>f6 (uR.1 e).2;have an:qK (H++C):=λe he=>by
  rcases wC.1 he with he|he
  .exact f1 e he
  .exact f2 e he
 have aE:∀j v,X[j]?=some v->G.cell? ((⟨b',bp,none⟩:Addr).add j)=some v:=λj v hv=>by rw[zh];exact(g3 j v hv).2
 have aF:H.length≠0->∃b,ad=some b/\∀j v,vs[j]?=some v->G.cell? (b.add j)=some v:=λhn=>by obtain⟨b,bZ,rfl,g4⟩:=g1 (by intro e;subst e;simp at hn);exact⟨_,rfl,λj v hv=>by rw[zh];exact(g4 j v hv).2⟩
 have K:=h.kl keep aP am;have aq:=h.owns _ _ (h.slot i);have aO:=h.slot i;rw[aN]at aq;rw[p1]at aq;have grow:E<H.length+C.length->(ad=none->E=0)->∃g2 w2 u,(execOp Y.eval o).run P G=.ok (.value u) w2/\R B g2 ⟨(d,.sl (H++C) (.r n T.size))::keep.map (λj=>(j,s.get j)),[]⟩ (QO (zB Y) (some d) u) w2:=λaT bg=>by obtain⟨cp,cs,hr,k1,k2,k3,k4⟩:=yJ (P:=P) (w:=G) (ty:=o.type) (c:=aB) hA.ht hA.hi hA.hz hA.hzs hA.hb r1.1 r2.1 aF bg aE aT f5;obtain⟨g5,hR⟩:=K.fresh (n0:=n) (hb.trans ((qk G (.cells cs e)).mono hb.size)) (g':=G.heap.size) hb.size (tn G.drew (.cells cs e)) (kj (r1.append r2) an) k4 (dJ k1) k2 k3 aL (some d);rw[wj]at hR;exact⟨g5,_,_,hA.run bn e2 hr,hR⟩
 rcases aq with⟨bS,hz,bN⟩|⟨F,bL,ab,e',hu,hW,hh,aU,bW,bY⟩
 .injection hz with bq bJ aR;exact grow a8 λ_=>aR
 .injection hu with bq bJ aR;subst bq;subst aR;by_cases ae:H.length+C.length<=E
  ·have aJ:F<w.heap.size:=(XV.1 hh).1;have av:G.heap[F]?=some (.cells ab e' (0,0)):=(hb.block F aJ).trans hh;have aW:H.length*T.size+X.length<=ab.size:=(by rw[r2.1,aU,<-WY];exact Wq _ ae);have hr:=vm (P:=P) (w:=G) (ty:=o.type) (c:=aB) hA.ht hA.hi av r2.1 aE (Xv r2) ae aW;obtain⟨new,aM⟩:=xt ((ab.toList.take (H.length*T.size)++X++ab.toList.drop (H.length*T.size+X.length)).toArray);rw[aM]at hr;have bl:vs.length=H.length*T.size:=r1.1;have ak:E≠0:=a8;have aS:zc (x0 i)=some F:=by
    rw[p1];cases E with
    |zero=>exact absurd rfl ak
    |succ c=>rfl
   have bh:new.size=E*T.size:=(by rw[<-aU,<-aM];simp;omega);have bj:∀j,j<(vs++X).length->new[j]?=some ((vs++X).getD j undef):=λj Z=>by
    have ht:(ab.toList.take (H.length*T.size)).length=H.length*T.size:=a9;rw[<-aM];simp only[wF];rw[wj]at Z;rw[vw,wQ];by_cases I:j<H.length*T.size
    .have ao:j<vs.length:=a8;obtain⟨b,eb,bz⟩:=aF (by intro e;rw[e]at I;omega);cases eb;have:=bz j _ (Zv ao);rw[zh]at this;simp only[World.cell?,av,wn]at this;rw[wh a8,wt,vD I,wh ao,Zv ao];simpa using this
    .rw[V2 a8,ht,wh a8,V2 a8,bl];have ao:j-H.length*T.size<X.length:=a8;rw[Zv ao];rfl
   have bw:=bC aX;have aj:∀b,B.W b->B.w0.heap.size<=b:=λb hb=>hb.resolve_right (bw b)
   -- another owner's slice lies elsewhere
   have ag:∀j,j∈keep->(kd s keep).get j=s.get j:=λj Z=>(by rw[kV,vD Z]);have au:∀j,((kd s keep).get j).own≠none->j∈keep:=λj ho=>by
    rw[kV]at ho;split at ho
    .assumption
    .exact absurd rfl ho
   have aA:∀j,((kd s keep).get j).own≠none->zc (zB Y j)≠some F:=λj ho e=>by
    have Z:=au j ho;have I:=h.disj _ _ _ _ F (h.slot j) aO (by rw[<-ag j Z];exact ho) (by rw[aN];simp[PV.own]) (by rw[<-am j Z];exact e) aS;rw[aN]at I;have L:=aP j Z;revert I L;cases s.get j<;>intro I L<;>try cases I
    rename_i es1 ow;cases ow<;>try cases I
    exact L.1 rfl
   have aQ:∀j j',((kd s keep).get j).own≠none->((kd s keep).get j').own≠none->((kd s keep).get j).own=((kd s keep).get j').own->j=j':=λj j' I L h3=>by
    have Z:=au j I;have aZ:=au j' L;rw[ag j Z]at I h3;rw[ag j' aZ]at L h3;rcases WL j j' with aJ|bB|aJ;all_goals first|exact bB|skip
    all_goals
     exfalso;obtain⟨m1,bc⟩:=wI Z;obtain⟨m2,aK⟩:=wI aZ;have ax:=(Zw.1 bc);have ay:=(Zw.1 aK);have hp:=wP.1 bG;rcases WL m1 m2 with hm|hm|hm
     .have:=hp m1 m2 ax.1 ay.1 hm;rw[ax.2,ay.2]at this;rcases this with h|h
      .exact I h
      .exact h h3
     .subst hm;rw[bc]at aK;cases aK;omega
     .have:=hp m2 m1 ay.1 ax.1 hm;rw[ax.2,ay.2]at this;rcases this with h|h
      .exact L h
      .exact h h3.symm
   have N:∀k,k<w.heap.size->k≠F->(G.setRow F new).heap[k]?=w.heap[k]?:=λk hk aL=>(Tl G _ _ new aL).trans (hb.block k hk)
   -- what is read from now on
   obtain⟨D3,ac⟩:∃D3:Nat->Nat->Prop,D3=λb o=>B.D0 b o\/(b=F/\o<(vs++X).length)\/∃(j:Nat) (e4:List (List PV)) (sz m:Nat),(kd s keep).get j=.sl e4 (.r m sz)/\zc (zB Y j)=some b/\o<e4.length*sz:=⟨_,rfl⟩;have az:∀u p,zQ ⟨D3,g.ρ⟩ (kd s keep) (zB Y) (G.setRow F new) u p->∃j,u=zB Y j/\p=(kd s keep).get j:=λu p hp=>by
    rcases hp with hp|⟨i,j,cs,I,_⟩
    .exact hp
    .simp[kd]at I
   have O:∀j,yW g.D B.W w (zB Y j) ((kd s keep).get j):=λj=>K.owns _ _ (K.slot j);have bu:R B ⟨D3,g.ρ⟩ (kd s keep) (zB Y) (G.setRow F new):=by
    refine⟨λj=>?_,λi cs hi=>by simp[kd]at hi,λi j hi=>by simp[kd]at hi,λu p hp=>?_,λu p u' p' b I L o1 o2 b1 b2=>?_,λu p b i _ _ _ hi=>by simp[kd]at hi,λb o U=>?_,λi hi=>by simp[kd]at hi,?_⟩
    ·have hrel:=K.slots j;by_cases Z:j∈keep
     .have L:=aP j Z;rw[<-ag j Z]at L;have ho:=O j;have V:=aA j;have Q:∀(e4:List (List PV))(sz m:Nat),(kd s keep).get j=.sl e4 (.r m sz)->∀b,zc (zB Y j)=some b->∀o,o<e4.length*sz->D3 b o:=λe4 sz m I b L o h3=>(by rw[ac];exact .inr (.inr ⟨j,e4,sz,m,I,L,h3⟩));revert L ho hrel V Q;cases (kd s keep).get j<;>intro hrel L ho V Q<;>try exact L.elim
      .rw[hrel.v_inv];exact .dat (.v _)
      .rename_i e4 ow;cases ow<;>try exact L.elim
       rename_i m sz;obtain⟨_,hf,bE⟩:=L;rcases ho with⟨br,hz,rfl⟩|⟨g4,M,ai,e5,S,aG,ah,aC,aD,be⟩
       .rw[hz];exact .dat (.sl br 0 1 [] _ 0 0 (λ_=>undef) (Zp _) (λh=>by cases h) (X4 _) (λh=>absurd rfl h) (λi e h=>by simp at h) (λj h=>absurd h b6) (λi e j p h=>by simp at h))
       .obtain⟨bT,bM,cc,e6,c5,c6,_,r5,g5⟩:=sl_row hrel bE;rw[S]at e6;injection e6 with t1 t2 t3;subst t1;subst t3;by_cases aI:e4=[]
        .subst aI;rw[S];exact .dat (.sl _ M 1 [] _ 0 0 (λ_=>undef) (X4 _) (λh=>by cases h) c6 (λh=>absurd rfl h) (λi e h=>by simp at h) (λj h=>absurd h b6) (λi e j p h=>by simp at h))
        .obtain⟨b5,bP,e7,g6⟩:=g5 aI;injection e7 with e7;injection e7 with e8 e9;subst e8;subst e9;have aH:M≠0:=(by have:=wV.2 aI;omega);have J:zc (zB Y j)=some g4:=by
          rw[S];cases M with
          |zero=>exact absurd rfl aH
          |succ c=>rfl
         have af:g4≠F:=λe=>V (by simp[PV.own]) (by rw[J,e]);have bD:(G.setRow F new).heap[g4]?=some (.cells ai e5 (0,0)):=(N g4 (XV.1 ah).1 af).trans ah;rw[S];refine .dat (jr (k:=.r m sz) (kj r5 hf) bD (λjj aw=>?_) c5 c6 (λh=>by cases h) λjj aw=>Q e4 sz m rfl g4 J jj (by rw[<-r5.1];exact aw));have:=(g6 jj _ (Zv aw)).2;simp only[World.cell?,ah,wn]at this;rw[vw,Zv aw];simpa using this
     .rw[kV,Vq Z];exact .dat (.und _)
    .obtain⟨j,rfl,rfl⟩:=az u p hp;by_cases ho:((kd s keep).get j).own=none
     .exact zr ho
     .have ba:=O j;have V:=aA j ho;have ar:=aQ j;have aY:∃q,(kd s keep).get j=q:=⟨_,rfl⟩;obtain⟨q,hq⟩:=aY;rw[hq]at ho ba ar⊢;cases q<;>try trivial
      rename_i e4 ow;cases ow<;>try trivial
      rename_i m sz;rcases ba with hn|⟨g4,M,ai,e5,S,aG,ah,aC,aD,be⟩
      .exact .inl hn
      .cases M with
       |zero=>have hrel:=K.slots j;rw[hq,S]at hrel;have:=QH hrel;exact .inl ⟨_,by rw[S,show e4.length=0 by omega],wH a8⟩
       | succ M=>
         have J:zc (zB Y j)=some g4:=(by rw[S];rfl);have af:g4≠F:=λe=>V (by rw[J,e]);refine .inr ⟨g4,_,ai,e5,S,aG,(N g4 (XV.1 ah).1 af).trans ah,aC,aD,λoo bF U=>?_⟩;rw[ac]at U;rcases U with U|⟨U,_⟩|⟨j',e6,cb,m6,t1,t2,t3⟩
         .have:=h.fr.d0lt _ _ U;have:=aj g4 aG;omega
         .exact af U
         .have bA:=K.disj _ _ _ _ g4 (K.slot j) (K.slot j') (by rw[hq];simp[PV.own]) (by rw[t1];simp[PV.own]) J t2;have:=ar j' (by simp[PV.own]) (by rw[t1];simp[PV.own]) (by rw[<-hq];exact bA);subst this;rw[hq]at t1;injection t1 with t4 t5;subst t4;injection t5 with t6 t7;subst t7;omega
    .obtain⟨j,rfl,rfl⟩:=az u p I;obtain⟨j',rfl,rfl⟩:=az u' p' L;exact K.disj _ _ _ _ b (K.slot j) (K.slot j') o1 o2 b1 b2
    .have bI:(G.setRow F new).heap.size=G.heap.size:=b6;show b<(G.setRow F new).heap.size;rw[bI];have A:D3 b o:=U;rw[ac]at A;have bU:=hb.size;rcases A with A|⟨rfl,_⟩|⟨j,e4,sz,m,t1,t2,t3⟩
     .have:=h.fr.d0lt _ _ A;have:=h.fr.size;omega
     .omega
     .have:=(zX (O j) (by rw[t1];simp[PV.own]) t2).1;omega
    .have f:=h.fr;have bX:=aj F hW;refine⟨hb.os.trans f.os,hb.tape.trans f.tape,hb.output.trans f.output,by simpa using V1 f.size hb.size,λkk hk hn=>?_,λb o U=>by rw[ac];exact .inl U,λb o y U hy=>?_,λb o U=>?_,f.d0lt⟩
     .rw[N kk (Vm hk f.size) a8];exact f.block kk hk hn
     .have I:=f.cell b o y U hy;have L:=f.d0lt b o U;rw[tl (a:=⟨b,o,none⟩) (N b (qF I) (show b≠F by omega))];exact I
     .have A:D3 b o:=U;rw[ac]at A;rcases A with A|⟨rfl,_⟩|⟨j,e4,sz,m,t1,t2,t3⟩
      .exact .inl A
      .exact .inr hW
      .exact .inr (zX (O j) (by rw[t1];simp[PV.own]) t2).2
   have aV:Dat D3 (G.setRow F new) (.slice (some ⟨F,0,none⟩) (H++C).length E) (.sl (H++C) (.r n T.size)):=
    jr (k:=.r n T.size) (kj (r1.append r2) an) (TJ G F ab new e' (0,0) av) bj (dJ ae) c2 (λh=>by cases h) λj Z=>by rw[ac];exact .inr (.inl ⟨rfl,Z⟩)
   have bi:=bu.put (some d) (.dat aV) λ_=>⟨.inr ⟨F,E,new,e',rfl,hW,TJ G F ab new e' (0,0) av,bh,λe he=>?_,λoo bF U=>?_⟩,λv q b I L h3 h4=>?_,λb i _ hi=>by simp[kd]at hi⟩
   .refine⟨⟨D3,g.ρ⟩,G.setRow F new,.slice (some ⟨F,0,none⟩) (H++C).length E,?_,bi⟩;rw[wj];exact hA.run bn e2 hr
   .rcases wC.1 he with he|he
    .exact f3 e he
    .exact f4 e he
   .have A:D3 F oo:=U;rw[ac]at A;rcases A with A|⟨_,A⟩|⟨j,e4,sz,m,t1,t2,t3⟩
    .have:=h.fr.d0lt _ _ A;have:=aj F hW;omega
    .rw[wj,bl,r2.1,<-WY,<-wj]at A;omega
    .exact aA j (by rw[t1];simp[PV.own]) t2
   .exfalso;obtain⟨j,rfl,rfl⟩:=az v q I;refine aA j L ?_;rw[h3];cases E with
    |zero=>exact absurd rfl ak
    |succ c=>simp[zc]at h4;rw[h4]
  .exact grow a8 λh=>by cases h
def jd{A:Array Oper}:∀{l:List Oper}{is:List PI},zI P nt A l=some is->is.length=l.length/\∀(j:Nat) o,l[j]?=some o->∃i,is[j]?=some i/\i.d=o.dst
 |[],is,h=>by cases h;exact⟨rfl,λj o h=>by simp at h⟩
 | o::l,is,h=>by
   simp only[zI,Z3]at h;obtain⟨k,hk,r,F,h⟩:=h;obtain⟨B,C⟩:=jd F;have y:∃u:PI,is=u::r/\u.d=o.dst:=by
    split at h
    .split at h
     .cases h;exact⟨_,rfl,rfl⟩
     .simp only[Z3]at h;obtain⟨t,_,h⟩:=h;split at h
      .cases h;exact⟨_,rfl,rfl⟩
      .cases h
    .cases h
   obtain⟨u,rfl,E⟩:=y;refine⟨by simp[B],λj G w=>?_⟩;cases j with
   |zero=>simp at w;subst w;exact⟨u,rfl,E⟩
   |succ j=>simpa using C j G (dJ w)
def qz{l:List Oper}:∀(n:Nat)(u:List Oper)(is:List PI),zI P nt l.toArray u=some is->n<=u.length->zI P nt l.toArray (u.take n)=some (is.take n)/\zI P nt l.toArray (u.drop n)=some (is.drop n):=by
 intro n;induction n with
 |zero=>intro u is h _;exact⟨by simp[zI],dJ h⟩
 | succ n ih=>
   intro u is h w;cases u with
   |nil=>simp at w
   | cons o u=>
     simp only[zI,Z3]at h;obtain⟨k,hk,r,y,h⟩:=h;obtain⟨e1,e2⟩:=ih u r y (dJ w);simp only[wO,wM,zI,hk,Option.bind_some,e1];split at h
     .rename_i hd;rw[vD hd];split at h
      .cases h;exact⟨rfl,e2⟩
      .rename_i j b hg;simp only[Z3]at h;obtain⟨t,ht,h⟩:=h;split at h
       .rename_i htn;cases h;exact⟨by simp[ht,htn],e2⟩
       .cases h
     .cases h
def zd2{l:List Oper}{Q:Exit->Act->World->Prop}(y nt:Nat)(C:World->Prop)(E:(xk l.toArray y nt && yK l.toArray y)=true)(F:a.tmps.size=nt)(H:C w.drew)
 (h:walkG qe (λo a w K=>o.wp P a w K Q) a w.drew C (λa w=>wpList P l.toArray Q (l.drop y) a w) (l.take y) []):wpAny P .any l.toArray Q l.toArray.size (Array.replicate l.toArray.size false) a w.drew:=by
 rw[V0]at E;refine gready (ops:=l.toArray) (a0:=a) (w0:=w.drew) (C:=C) rfl (λo a w K=>o.wp P a w K Q) (wpOp P l.toArray Q) (wpAny P .any l.toArray Q) (λa w=>Q .normal a w) (λk a w=>wpList P l.toArray Q (l.drop k) a w)
  ?_ (λi K I a w hk hs=>Tq hk hs) (λj a w A B=>⟨A,B⟩) (λG j a w A B=>⟨A,B⟩) ?_ ?_ E.1 E.2 F H h
 .intro i o K a w ho hs;unfold wpOp;simp only[ho];split
  .rename_i hw;rw[vD hw]at hs;exact .inl hs
  .rename_i hw;rw[Vq hw]at hs;exact hs
 .intro k a w hk ht;have u:k<l.length:=(dJ hk);simp only[VS u,wpList]at ht;unfold wpOp;simp only[wF,Zv u];exact ht
 .intro a w ht;simpa[wpList]using ht
def zcI{fr:Prop}(aR:fr->∀k,¬B.Sb k){l:List Oper}{is:List PI}{C:Nat}{Q:PX->PS->Prop}(aH:∀t,(s.get t).isN=false)(hc:zI P nt l.toArray l=some is)(hB:(xk l.toArray C nt && yK l.toArray C)=true)(hq:zf P (is.take C) (qZ P fr (is.take C) s (is.drop C) (Q .n)) s)(h:RA B nt g s a w):
 wpAny P .any l.toArray (QL B nt Q) l.toArray.size (Array.replicate l.toArray.size false) a w.drew:=by
 have ao:=(V0 _ _).mp hB;have aY:C<=l.length:=by have:=ao.1;unfold xk at this;simp only[V0,wG]at this;simpa using this.1
 -- the two halves
 obtain⟨af,A⟩:=qz C l is hc aY;have bc:w.drew.heap.size=w.heap.size:=rfl;have O:∀H,Keep qe w.drew H->∀b o x,g.D b o->w.cell? ⟨b,o,none⟩=some x->H.cell? ⟨b,o,none⟩=some x:=λH hk b o x _ hx=>qa (qu hk) (show b<w.drew.heap.size from qF hx) hx;refine zd2 C nt (λH=>Keep qe w.drew H) hB h.2.2 (Keep.refl _ _) ?_;have:=Z8 (P:=P) (D:=λb o=>g.D b o\/w.heap.size<=b) (ρ:=g.ρ) (Q:=QL B nt Q) (F:=λa w=>wpList P l.toArray (QL B nt Q) (l.drop C) a w) (s0:=s) (a0:=a) (w0:=w.drew) (nh:=C) ao.1 (K:=qZ P fr (is.take C) s (is.drop C) (Q .n))
  (λH hk t=>(h.1.slots t).mono (λ_ _ h=>.inl h) (O H hk) (Zp _) λ_ _=>rfl)
  (λH hk i cs hi=>by
    obtain⟨_,vs,e,hv,hz,hb⟩:=h.1.boxes i cs hi;have aB:g.ρ i<w.drew.heap.size:=h.1.ρlt (Zw.1 hi).1;exact⟨vs,e,(hk.block _ aB λh=>h).trans hv,hz,λj p hp=>⟨(hb j p hp).1.mono (λ_ _ h=>.inl h) (O H hk) (Zp _) λ_ _=>rfl,(hb j p hp).2⟩⟩)
  (λH hk=>h.1.gl.mono (λ_ _ h=>.inl h) (O H hk))
  (λb o hb=>.inr hb) aH
  (fun ps H hk hdd hln hds hown aB ⟨s',hE,M⟩=>by
    have hb:=qu hk;have hg:R B ⟨λb o=>(g.D b o\/w.heap.size<=b)/\b<H.heap.size,g.ρ⟩ s (zB a) H:=h.1.drew.grow hb _ (λb o hD=>⟨.inl hD,Vm (h.1.dlt b o hD) hb.size⟩) (λb o hD=>hD.1) (λb o hD=>hD.2);refine kS ps s a hdd hown aB (λb o hD=>hD) ⟨hg,h.2⟩ rfl λE G aq ac=>?_;have ae:ze P (is.drop C) (Q .n) s'->wpList P l.toArray (QL B nt Q) (l.drop C) E H:=λM=>list_sound _ _ _ _ E H A M (G.eqS hE);unfold qZ at M;split at M
    .rename_i d x y sz by_ t' ht';split at M
     .rename_i es sz' hx;obtain⟨rfl,an,M⟩:=M;obtain⟨aF,k,ey,f1,f2,f3,f4,f5,f6,f7⟩:=y8 M
      -- the append
      cases hl:l.drop C with
      |nil=>rw[hl]at A;rw[ht']at A;cases A
      | cons o l'=>
        rw[hl,ht']at A;simp only[zI,Z3]at A;obtain⟨k0,aA,r,hr,A⟩:=A;split at A
        .rename_i hdk;have ay:o.guard=none/\o.dst=some d/\k0=.ap (.t x) y sz' by_/\r=t':=by
          split at A
          .rename_i S;simp only[wN,Ws,PI.mk.injEq]at A;exact⟨S,A.1.1,A.1.2.2,A.2⟩
          .simp only[Z3]at A;obtain⟨t,_,A⟩:=A;split at A
           .simp only[wN,Ws,PI.mk.injEq]at A;cases A.1.2.1
           .cases A
         obtain⟨S,T,rfl,rfl⟩:=ay;obtain⟨x1,x2,t,e,i,z0,hA,V,am,rfl,rfl⟩:=vo aA;have aD:x1=.tmp x:=by cases x1<;>first|(cases V;rfl)|cases V
         have aw:E.eval x1=zB E x:=(by rw[aD];rfl);have J:=G.eqS hE;have U:=J.1.slots x;rw[hx]at U;have ab:=Xk (a:=E) am λt _=>J.1.slots t;rw[ey]at ab;have hN:NewOk (zB a) w.heap.size H (zB E x) (.sl es (.n i.size)):=by
          have ah:(zy s ps).get x=.sl es (.n i.size):=(by rw[<-hE.1];exact hx);rcases kZ (x0:=zB a) (n0:=w.heap.size) (D:=g.D) (ρ:=g.ρ) (nb:=s.b.length) (t:=x) ps s hdd with⟨p,aC,_,e2⟩|⟨e1,e2⟩
          .rw[ah]at e2;subst e2;exact aq x _ aC
          .exfalso;obtain⟨i0,aS,au⟩:=Uw.1 an;have au:i0.d=some x:=(dJ au);obtain⟨j,Y⟩:=wI aS;obtain⟨m1,m2⟩:=jd af;have I:j<(l.take C).length:=(by rw[<-m1];exact(Zw.1 Y).1);obtain⟨i1,ai,aI⟩:=m2 j _ (Zv I);rw[Y]at ai;cases ai;have ak:j<ps.length:=(by rw[hln];simp at I;omega);have L:=hds j _ (Zv ak);have N:j<l.length:=(by simp at I;omega);have e4:(l.take C)[j]'I=l[j]:=b6;rw[e4,au]at aI;have e5:ps[j].1=some x:=by rw[L];unfold zJ;simp[N,<-aI]
           exact JS (x0:=zB a) (n0:=w.heap.size) (D:=g.D) (ρ:=g.ρ) (nb:=s.b.length) ps ps[j].2 (by rw[<-e5];exact Y1 ak) e1
         rw[<-aw]at U hN;obtain⟨g',aE,cs,e',vs,w2,Z,q1,q2,q3,q4,q5,q6,q7,q8⟩:=zmh hA U hN ab hb.size f3 f4 f5 f6;unfold wpList;rw[vD (by simp[Region.wanted,S])];refine .inl ?_;show o.upon P E (wpList P l.toArray (QL B nt Q) l') (QL B nt Q) ((execOp E.eval o).run P H);rw[Z];have ag:∀t,o.dst=some t->t<E.tmps.size:=λt ht=>by rw[ht]at hdk;rw[G.2.2];simpa[vd]using hdk
         have ax:qK (es++aF):=λe he=>by
          rcases wC.1 he with he|he
          .exact f1 e he
          .exact f2 e he
         have aG:Below w.drew.heap.size w.drew w2:=hb.trans q2;have aJ:R B g (qI (is.take C) s) (zB E) w.drew:=h.1.drew.forget λt ht=>ac t λy hy e=>(by obtain⟨j,Y⟩:=wI hy;have ak:j<C:=(by have:=(Zw.1 Y).1;omega);have L:=hds j y Y;rw[e]at L;obtain⟨m1,m2⟩:=jd af;have I:j<(l.take C).length:=a9;have h3:=m2 j _ (Zv I);obtain⟨i',az,aj⟩:=h3;refine ht i' (wL az) ?_;rw[aj];unfold zJ at L;have N:j<l.length:=a8;have:(l.take C)[j]'I=l[j]:=b6;rw[this];simpa[N]using L.symm);obtain⟨g2,ar⟩:=aJ.fresh (n0:=d) aG (g':=g') q1 q3 (kj q7 ax) q8 q4 q5 q6 (λe=>f6 (uR.1 e).2) (some d);refine list_sound l' r _ g2 _ w2 hr f7 ⟨?_,by rw[(zD _ _ _).2];exact G.2.1,by rw[(zD _ _ _).1];exact G.2.2⟩;rw[zN ag,T];exact ar
        .cases A
     .rename_i es i hx;obtain⟨aK,an,M⟩:=M;split at M
      .rename_i es0 n sz' hsi;obtain⟨rfl,M⟩:=M;obtain⟨aF,k,ey,f3,f4,f5,f6,hQ⟩:=y8 M;cases hl:l.drop C with
       |nil=>rw[hl]at A;rw[ht']at A;cases A
       | cons o l'=>
         rw[hl,ht']at A;simp only[zI,Z3]at A;obtain⟨k0,aA,r,hr,A⟩:=A;split at A
         .rename_i hdk;have ay:o.guard=none/\o.dst=some d/\k0=.ap (.t x) y sz' by_/\r=t':=by
           split at A
           .rename_i S;simp only[wN,Ws,PI.mk.injEq]at A;exact⟨S,A.1.1,A.1.2.2,A.2⟩
           .simp only[Z3]at A;obtain⟨t,_,A⟩:=A;split at A
            .simp only[wN,Ws,PI.mk.injEq]at A;cases A.1.2.1
            .cases A
          obtain⟨S,T,rfl,rfl⟩:=ay;obtain⟨x1,x2,t,e,ti,z0,hA,V,am,rfl,rfl⟩:=vo aA;have aD:x1=.tmp x:=by cases x1<;>first|(cases V;rfl)|cases V
          have aw:E.eval x1=zB E x:=(by rw[aD];rfl);have J:=G.eqS hE;have U:=J.1.slots x;rw[hx]at U;have ab:=Xk (a:=E) am λt _=>J.1.slots t;rw[ey]at ab;have hN:NewOk (zB a) w.heap.size H (zB E x) (.sl es (.p i)):=by
           have ah:(zy s ps).get x=.sl es (.p i):=(by rw[<-hE.1];exact hx);rcases kZ (x0:=zB a) (n0:=w.heap.size) (D:=g.D) (ρ:=g.ρ) (nb:=s.b.length) (t:=x) ps s hdd with⟨p,aC,_,e2⟩|⟨e1,e2⟩
           .rw[ah]at e2;subst e2;exact aq x _ aC
           .rw[ah]at e2;have:=aH x;rw[<-e2]at this;cases this
          obtain⟨ad,len,ba,p1,p2⟩:=hN;have X:∀j,((is.take C).all λy=>!(y.d == some j))=true->zB E j=zB a j:=λj h3=>ac j λy hy e=>(by obtain⟨jj,aL⟩:=wI hy;have L:=hds jj y aL;rw[e]at L;obtain⟨m1,m2⟩:=jd af;have ak:jj<C:=(by have:=(Zw.1 aL).1;omega);have I:jj<(l.take C).length:=a9;obtain⟨i',az,aj⟩:=m2 jj _ (Zv I);rw[wK]at h3;have h4:=h3 i' (wL az);unfold zJ at L;have N:jj<l.length:=a8;have e4:(l.take C)[jj]'I=l[jj]:=b6;rw[e4]at aj;rw[aj]at h4;have:l[jj].dst=some j:=(by simpa[N]using L.symm);rw[this]at h4;simp at h4);have ag:∀t,o.dst=some t->t<E.tmps.size:=λt ht=>(by rw[ht]at hdk;rw[G.2.2];simpa[vd]using hdk);unfold wpList;rw[vD (by simp[Region.wanted,S])];refine .inl ?_;rcases hQ with⟨⟨f1,f2⟩,keep,f7,f8⟩|⟨ai,aT,aU,aV,aW⟩
          .have av:∀j∈keep,zB E j=zB a j:=λj Y=>X j (f7.1 j Y).1;obtain⟨g2,w2,u,Z,ar⟩:=ze1 aK aR (d:=d) h.1.drew hb hA (aw.trans p2) ab hsi p1 (hrx:=p2▸U) f1 f2 f3 f4 f5 f6 f7.2 (λj Y=>(f7.1 j Y).2) av;show o.upon P E (wpList P l.toArray (QL B nt Q) l') (QL B nt Q) ((execOp E.eval o).run P H);rw[Z];refine list_sound l' r _ g2 _ w2 hr f8 ⟨?_,by rw[(zD _ _ _).2];exact G.2.1,by rw[(zD _ _ _).1];exact G.2.2⟩;rw[zN ag,T];exact ar
          .subst aU;have aP:zB E x=zB E i:=by have aM:=h.1.slots i;rw[hsi]at aM;obtain⟨aZ,aE,_,_,_,_,q1,_⟩:=aM.inv_sl;rw[X i ai,p2,q1];rw[p1]at q1;injection q1 with q2 q3 q4;rw[q2,q4]
           have aQ:R B ⟨λb o=>(g.D b o\/w.heap.size<=b)/\b<H.heap.size,g.ρ⟩ (s'.put (some x) (.sl es0 (.r n ti.size))) (zB E) H:=by
            have aO:=J.1.slots i;have aN:=J.1.slot i;rw[aT,hsi]at aO aN;have:=J.1.put (some x) aO (J.1.ownNew aN)
            rwa[show QO (zB E) (some x) (zB E i)=zB E from by
             funext t;unfold QO;split
             .rename_i e;cases e;exact aP.symm
             .rfl]at this
           refine zgN (K:=ze P r (Q .n)) ag aQ hA V am (zF _ _ _) (aV.trans ey) f4 f5 (by rw[T];exact aW) _ _ λs3 g3 u w3 hk hR=>?_;exact list_sound l' r _ g3 _ w3 hr hk ⟨hR,by rw[(zD _ _ _).2];exact G.2.1,by rw[(zD _ _ _).1];exact G.2.2⟩
         .cases A
      .exact M.elim
     .exact ae M
    .exact ae M)
  (l.take C) (is.take C) [] s (EqS.refl _) af a9 (λj Y=>by
    have aX:j<C:=(by simp at Y;omega);simp[wt,aX]) (λj x h=>by simp at h) List.Pairwise.nil b6 hq
 simpa[qq]using this
abbrev GW:=List Nat×World
instance instGW:Pl.Kpo GW where
 kp x y:=Keep qe x.2 y.2/\(∀b∈x.1,b∈y.1)/\∀b∈y.1,b∈x.1\/x.2.heap.size<=b
 refl w:=⟨Keep.refl _ _,λ_ h=>h,λ_ h=>.inl h⟩
 trans a b c h k:=⟨h.1.trans k.1,λx hx=>k.2.1 x (h.2.1 x hx),λx hx=>by
  rcases k.2.2 x hx with h'|h'
  .exact h.2.2 x h'
  .exact .inr (V1 h.1.size h')⟩
def J1(P:Program)(Q:Exit->Act->World->Prop):Oper->Act->GW->(Act->GW->Prop)->Prop:=λo a S K=>o.wp P a S.2 (λu w=>∃j,K u (j,w)) Q
def CG(w0:World):GW->Prop:=λS=>Keep qe w0 S.2/\∀b∈S.1,w0.heap.size<=b/\b<S.2.heap.size
def VG(D:Qk)(ρ:Nat->Nat)(nb:Nat)(p:PV):Pl.VP GW:=λu S=>Rel (λb o=>D b o/\b∉S.1) ρ nb S.2 u p
def qw(D:Qk)(ρ:Nat->Nat)(nb:Nat)(j:List (Option Nat×PV)):List (Option Tmp×Pl.VP GW):=j.map λy=>(y.1,VG D ρ nb y.2)
def VG.stab{p:PV}{u:Value}{S w:GW}(h:VG D ρ nb p u S)(k:Pl.Kpo.kp S w):VG D ρ nb p u w:=
 (Rel.restrict h).mono (λb o j=>⟨j.1.1,λB=>(k.2.2 b B).elim j.1.2 λA=>Nat.not_le.2 j.2 A⟩) (λb o x _ y=>qa (qu k.1) (qF y) y) (Zp _) λ_ _=>rfl
def za2(j:List (Option Nat×PV))(d:Option Nat)(p:PV):qw D ρ nb (j++[(d,p)])=qw D ρ nb j++[(d,VG D ρ nb p)]:=by simp[qw]
def jk{t:Nat}:∀(j:List (Option Nat×PV))(s:PS),ke j->(∃p,(some t,p)∈j/\Pl.lk (qw D ρ nb j) t=some (VG D ρ nb p)/\(zy s j).get t=p)\/(Pl.lk (qw D ρ nb j) t=none/\(zy s j).get t=s.get t)
 |[],s,_=>.inr ⟨rfl,rfl⟩
 | (d,p)::j,s,h=>by
   have w:=V3.1 h;by_cases e:d=some t
   .subst e;refine .inl ⟨p,b6,by simp[qw,Pl.lk],?_⟩;rw[show zy s ((some t,p)::j)=zy (s.put (some t) p) j from rfl,qt]
    .exact zF s t p
    .intro x B e;rcases w.1 x B with o|o
     .cases o
     .exact o e.symm
   .rcases jk (t:=t) j (s.put d p) w.2 with⟨q,o,u,A⟩|⟨o,u⟩
    .exact .inl ⟨q,by simp[o],by simpa[qw,Pl.lk,e]using u,A⟩
    .refine .inr ⟨by simpa[qw,Pl.lk,e]using o,?_⟩;rw[show zy s ((d,p)::j)=zy (s.put d p) j from rfl,u];cases d with
     |none=>rfl
     |some d=>exact zV s p λy=>e (by rw[y])
def ZP{t:Nat}:∀(j:List (Option Nat×PV))(p:PV),(some t,p)∈j->Pl.lk (qw D ρ nb j) t≠none
 | y::j,p,h=>by
   by_cases e:y.1=some t
   .simp[qw,Pl.lk,e]
   .rcases wi.1 h with h|h
    .rw[<-h]at e;exact absurd rfl e
    .have:=ZP j p h;simpa[qw,Pl.lk,e]using this
def ki{F:Act->GW->Prop}{S:GW}{o:List (Option Tmp×Pl.VP GW)}:∀(j:List (Option Tmp×Pl.VP GW))(a:Act),Pl.finG (λa S=>Pl.finG F S o a) S j a->Pl.finG F S (j++o) a
 |[],a,h=>h
 |(none,_)::r,a,h=>ki r a h
 |(some _,_)::r,a,h=>λu w=>ki r _ (h u w)
def yL{S:GW}{F:Act->GW->Prop}{E:Qk}:∀(w:List (Option Nat×PV))(s:PS)(a:Act),ke w->(∀x∈w,x.2.own=none)->(∀x∈w,∀d,x.1=some d->d<nt)->(∀b o,((D b o/\b∉S.1)/\b<S.2.heap.size)->E b o)->RA B nt ⟨E,ρ⟩ s a S.2->s.b.length=nb ->
 (∀y,RA B nt ⟨E,ρ⟩ (zy s w) y S.2->(∀t,(∀x∈w,x.1≠some t)->zB y t=zB a t)->F y S)->Pl.finG F S (qw D ρ nb w) a
 |[],s,a,_,_,_,_,h,_,hF=>hF a h λ_ _=>rfl
 |(none,p)::w,s,a,h0,h1,h2,h3,h,hb,hF=>yL w s a (V3.1 h0).2 (λx j=>h1 x (by simp[j])) (λx j=>h2 x (by simp[j])) h3 h hb λy I J=>hF y I (λt ht=>J t λx j=>ht x (by simp[j]))
 | (some d,p)::w,s,a,h0,h1,h2,h3,h,hb,hF=>by
   intro u M;have K:=h2 (some d,p) b6 d rfl;have A:=V3.1 h0;have G:d<a.tmps.size:=(by rw[h.2.2];exact K);have C:zB (a.put (some d) u)=QO (zB a) (some d) u:=zN (by intro t ht;cases ht;exact G);have L:∀x∈w,x.1≠some d:=λx j e=>by
    rcases A.1 x j with h|h
    .cases h
    .exact h e.symm
   refine yL w (s.put (some d) p) _ A.2 (λx j=>h1 x (by simp[j])) (λx j=>h2 x (by simp[j])) h3 ⟨?_,by rw[(zD _ _ _).2];exact h.2.1,by rw[(zD _ _ _).1];exact h.2.2⟩ (by rw[zaq];exact hb) λy I J=>hF y I λt ht=>?_
   .rw[C];have H:Rel (λb o=>D b o/\b∉S.1) ρ nb S.2 u p:=M;refine h.1.put (some d) ?_ (.none (h1 (some d,p) b6));rw[hb];exact H.restrict.mono h3 (λ_ _ _ _ h=>h) (Zp _) λ_ _=>rfl
   .rw[J t λx j=>ht x (by simp[j]),C];exact QP _ _ λe=>ht (some d,p) b6 (by rw[e])
def yp{U:Array Oper}{Q:Exit->Act->World->Prop}{E:List (Option Tmp×Pl.VP GW)->Prop}{s0:PS}{a0:Act}{w0:World}{nh nh':Nat}(ax:nh<=nh')(H:Pl.ChkR U nh' nt){l2:List Oper}{K:PS->Prop}
 (h0:∀S,CG w0 S->∀t,Rel (λb o=>D b o/\b∉S.1) ρ s0.b.length S.2 (a0.tmps.getD t undef) (s0.get t)) (Z:∀S,CG w0 S->∀(i:Nat) cs,s0.b[i]?=some cs->zaA ⟨λb o=>D b o/\b∉S.1,ρ⟩ s0.b.length S.2 i cs) (am:∀S,CG w0 S->GL (λb o=>D b o/\b∉S.1) S.2) (ab:∀b o,w0.heap.size<=b->D b o)
 (hF:∀A,ke A->A.length=nh->(∀(j:Nat) x,A[j]?=some x->x.1=zJ U j)->(∀x∈A,x.2.own=none)->(∀x∈A,∀d,x.1=some d->d<nt)->(∃s',EqS s' (zy s0 A)/\K s')->Pl.walkE (J1 P Q) a0 ([],w0) (CG w0) E l2 (qw D ρ s0.b.length A)) :
 ∀(l:List Oper)(is:List PI)(A:List (Option Nat×PV))(s':PS),EqS s' (zy s0 A)->zI P nt U l=some is->A.length+l.length=nh->(∀j,j<l.length->U[A.length+j]?=l[j]?)->(∀(j:Nat) x,A[j]?=some x->x.1=zJ U j)->ke A->(∀x∈A,x.2.own=none) ->
  zf P is K s'->Pl.walkE (J1 P Q) a0 ([],w0) (CG w0) E (l++l2) (qw D ρ s0.b.length A)
 |[],is,A,s',B,C,hl,ho,hd,hdd,hown,O=>by cases C;refine hF A hdd (dJ hl) hd hown (λx I d af=>?_) ⟨s',B,O⟩;obtain⟨j,G⟩:=wI I;have aF:j<nh:=(by have:=(Zw.1 G).1;simp at hl;omega);obtain⟨o,ho,_,_,h3⟩:=H j (show j<nh' by omega);have:=hd j x G;rw[af]at this;unfold zJ at this;rw[ho]at this;exact(h3 d this.symm).1
 | o::l,is,A,s',B,C,hl,ho,hd,hdd,hown,O=>by
   simp only[zI,Z3]at C;obtain⟨k,hk,r,hr,C⟩:=C;split at C
   .rename_i hdk;simp only[wv]at hl;have hi:A.length<nh:=a8;obtain⟨F,ae,_,aw,av⟩:=H A.length (show A.length<nh' by omega);have az:F=o:=by have:=ho 0 b6;simp only[ud,Uk]at this;rw[this]at ae;exact(wA ae).symm
    subst az
    -- going on
    have next:∀(s':PS)(p:PV),EqS s' (zy s0 A)->p.own=none->zf P r K (s'.put F.dst p)->Pl.walkE (J1 P Q) a0 ([],w0) (CG w0) E (l++l2) (qw D ρ s0.b.length A++[(F.dst,VG D ρ s0.b.length p)]):=λs' p B hp aA=>by
     rw[<-za2];refine yp ax H h0 Z am ab hF l r (A++[(F.dst,p)]) (s'.put F.dst p) (by rw[YK];exact B.put _ _) hr a9 (λj G=>?_) (λj x G=>?_) ?_ (λx I=>?_) aA
     .have:=ho (j+1) (dJ G);simp only[uM]at this;rw[<-this];congr 1;simp;omega
     .rcases wJ j A.length with h'|h'
      .rw[wh h']at G;exact hd j x G
      .rw[V2 h']at G;have e:j-A.length=0:=(by have:=(Zw.1 G).1;simp at this;omega);rw[e]at G;simp at G;subst G;have:j=A.length:=a8;subst this;unfold zJ;rw[ae];rfl
     .refine Ua.2 ⟨hdd,b6,λx I y hy=>?_⟩;simp at hy;subst hy;obtain⟨j,G⟩:=wI I;cases af:x.1 with
      |none=>exact .inl rfl
      |some d=>refine .inr λe=>?_;have aE:=(Zw.1 G).1;have:=(av d e.symm).2 j a8 ((hd j x G).symm.trans af);omega
     .rcases wC.1 I with I|I
      .exact hown x I
      .simp at I;subst I;exact hp
    -- what is read
    have rd:∀s',EqS s' (zy s0 A)->∀a S,CG w0 S->Pl.Rds (qw D ρ s0.b.length A) a0 (zA F) a S->Rd (λb o=>D b o/\b∉S.1) ρ s' (zB a) (zA F) S.2:=λs' B a S hw ac=>by
     refine⟨λt ht=>?_,λi cs ai=>?_,am _ hw⟩
     ·rw [B.2,qp,B.1];revert ht;generalize zA F=ts at ac⊢;induction ts with
      |nil=>intro ht;cases ht
      | cons t' ts ih=>
        intro ht;obtain⟨X,h2⟩:=ac;rcases wi.1 ht with rfl|ht
        .rcases jk (D:=D) (ρ:=ρ) (nb:=s0.b.length) (t:=t) A s0 hdd with⟨p,_,e1,e2⟩|⟨e1,e2⟩
         .rw[e1]at X;obtain⟨u,hu,hv⟩:=X;rw[e2];have:zB a t=u:=hu.2.1;rw[this];exact hv
         .rw[e1]at X;rw[e2];have:zB a t=a0.tmps.getD t undef:=X.2.1;rw[this];exact h0 S hw t
        .exact ih h2 ht
     .rw[B.2,qp]at ai⊢;exact Z S hw i cs ai
    have run:∀s',EqS s' (zy s0 A)->(k.q P s' λp=>p.own=none/\zf P r K (s'.put F.dst p))->∃p:PV,p.own=none/\Pl.headOk (J1 P Q) a0 ([],w0) (CG w0) (qw D ρ s0.b.length A) F (VG D ρ s0.b.length p)/\zf P r K (s'.put F.dst p):=λs' B L=>by
     obtain⟨p,X,h2⟩:=zat k _ L;obtain⟨hp,X⟩:=X;refine⟨p,hp,?_,X⟩;intro a S C aG aC K2 ar;obtain⟨p',rfl,_,aB⟩:=y9 hk (rd s' B a S C aC) h2;refine aB (λa' w'=>∃F',K2 a' (F',w')) Q λu w' hb hrel _=>⟨S.1,?_⟩;have ad:Keep qe S.2 w':=Keep.of_below' hb (Zp _);refine ar u (S.1,w') ⟨ad,λ_ h=>h,λ_ h=>.inl h⟩ ⟨C.1.trans ad,λb ag=>⟨(C.2 b ag).1,Vm (C.2 b ag).2 ad.size⟩⟩ ?_;rw[B.2,qp]at hrel;refine Rel.mono hrel (λb o h=>?_) (λ_ _ _ _ h=>h) (Zp _) λ_ _=>rfl;rcases h with h|h
     .exact h
     .exact⟨ab b o (V1 C.1.size h),λhm=>by have:=(C.2 b hm).2;omega⟩
    have aq:∀s',EqS s' (zy s0 A)->(k.q P s' λp=>p.own=none/\zf P r K (s'.put F.dst p))->∀T:∀V:Pl.VP GW,Pl.headOk (J1 P Q) a0 ([],w0) (CG w0) (qw D ρ s0.b.length A) F V->Pl.stepOk (J1 P Q) a0 ([],w0) (CG w0) (qw D ρ s0.b.length A) F V,
     Pl.walkE (J1 P Q) a0 ([],w0) (CG w0) E (F::(l++l2)) (qw D ρ s0.b.length A):=λs' B L T=>by
     obtain⟨p,X,h2,h3⟩:=run s' B L;exact⟨VG D ρ s0.b.length p,λu w w' h hk=>VG.stab h hk,T _ h2,next s' p B X h3⟩
    have no:∀s',EqS s' (zy s0 A)->zf P r K (s'.put F.dst (.v undef))->∀T:Pl.stepOk (J1 P Q) a0 ([],w0) (CG w0) (qw D ρ s0.b.length A) F (λu _=>u=undef),
     Pl.walkE (J1 P Q) a0 ([],w0) (CG w0) E (F::(l++l2)) (qw D ρ s0.b.length A):=λs' B L T=>by
     have hV:VG D ρ s0.b.length (.v undef)=fun(u:Value) (_:GW)=>u=undef:=(by funext u w;exact propext ⟨λh=>Rel.v_inv h,λh=>by subst h;exact .dat (.v _)⟩);have:=next s' (.v undef) B rfl L
     rw[hV]at this;exact⟨_,λu w w' h hk=>h,T,this⟩
    split at C
    .rename_i hg;cases C;exact aq s' B O λV hV=>by unfold Pl.stepOk;rw[hg];exact hV
    .rename_i j b hg;simp only[Z3]at C;obtain⟨t,ht,C⟩:=C;split at C
     .rename_i htn;cases C;obtain⟨an,_,_⟩:=aw j b hg;have ak:∃p,(qw D ρ s0.b.length A)[j]?=some (some t,VG D ρ s0.b.length p)/\(zy s0 A).get t=p:=by
       have I:=Zv an;have aj:=hd j _ I;rw[ht]at aj;have hm:A[j]=(some t,A[j].2):=Um aj rfl;refine⟨A[j].2,by unfold qw;rw[wk,I,hm];rfl,?_⟩;rcases jk (D:=D) (ρ:=ρ) (nb:=s0.b.length) (t:=t) A s0 hdd with⟨p,N,_,e2⟩|⟨e1,_⟩
       .obtain⟨j',J⟩:=wI N;have aD:=(Zw.1 J).1;obtain⟨oj,ay,_,_,au⟩:=H j (show j<nh' by omega);have:j'=j:=(au t (by have:=ht;unfold zJ at this;rw[ay]at this;exact this)).2 j' a8 (hd j' _ J).symm;subst this;rw[I]at J;simp only[wN]at J;rw[e2,J]
       .exfalso;have ao:(some t,A[j].2)∈A:=(by rw[<-hm];exact Y1 an);exact ZP A _ ao e1
      obtain⟨p,N,Y⟩:=ak;simp only[zf,PI.guard]at O;split at O
      .rename_i c e;rw[B.1,Y]at e;subst e;by_cases ah:c=b
       .subst ah;refine aq _ (B.fix Y) (O.1 rfl) λV hV=>?_;unfold Pl.stepOk;rw[hg];refine .inl ⟨?_,hV⟩;unfold Pl.isV;rw[N];exact λu w h=>Rel.v_inv h
       .have M:=ZT ah;refine no _ (B.fix (by rw[Y,M])) (O.2 M) ?_;unfold Pl.stepOk;rw[hg];refine .inr ⟨.inl ?_,rfl⟩;unfold Pl.isV;rw[N];intro u w h;rw[<-M];exact Rel.v_inv h
      .rename_i vs e;rw[B.1,Y]at e;subst e;obtain⟨rfl,O⟩:=O;refine no s' B O ?_;unfold Pl.stepOk;rw[hg];refine .inr ⟨.inr ?_,rfl⟩;unfold Pl.isV;rw[N];exact λu w h=>Rel.v_inv h
      .exact O.elim
     .cases C
   .cases C
def VA(j:Array Value)(e:TypeId):Pl.VP GW:=λu S=>∃b,b∈S.1/\u=.pointer (some ⟨b,0,none⟩)/\S.2.heap[b]?=some (.cells j e (0,0))
def VA.stab{o:Array Value}{e:TypeId}{u:Value}{S j:GW}(h:VA o e u S)(k:Pl.Kpo.kp S j):VA o e u j:=by obtain⟨b,w,y,A⟩:=h;exact⟨b,k.2.1 b w,y,k.1.obj A λh=>h⟩
def zaY{fr:Prop}{l:List Oper}{is t':List PI}{A d:Nat}{zs:List PV}{Q:PX->PS->Prop}(hc:zI P nt l.toArray l=some is)(ae:is.drop A=⟨some d,none,.al zs⟩::t')(hB:(xk l.toArray (A+1) nt && yK l.toArray (A+1))=true)(hq:zf P (is.take A) (qZ P fr (is.take A) s (is.drop A) (Q .n)) s)(h:RA B nt g s a w):
 wpAny P .any l.toArray (QL B nt Q) l.toArray.size (Array.replicate l.toArray.size false) a w.drew:=by
 have L:=(V0 _ _).mp hB;have aA:A+1<=l.length:=by have:=L.1;unfold xk at this;simp only[V0,wG]at this;simpa using this.1
 obtain⟨am,y⟩:=qz A l is hc a8;rw[VS (show A<l.length by omega),ae]at y;obtain⟨o,ho⟩:=xt (l[A]);rw[ho]at y;simp only[zI,Z3]at y;obtain⟨k,hk,r,hr,y⟩:=y;have ao:vd nt o.dst=true/\o.guard=none/\o.dst=some d/\k=.al zs/\r=t':=by
  split at y
  .rename_i T;split at y
   .rename_i Y;simp only[wN,Ws,PI.mk.injEq]at y;exact⟨T,Y,y.1.1,y.1.2.2,y.2⟩
   .simp only[Z3]at y;obtain⟨t,_,y⟩:=y;split at y
    .simp only[wN,Ws,PI.mk.injEq]at y;cases y.1.2.1
    .cases y
  .cases y
 obtain⟨T,Y,U,rfl,rfl⟩:=ao;obtain⟨e,au,hz⟩:=vo hk;obtain⟨i,z,g1,g2,rfl,g4⟩:=qJ hz;have ag:∀(a:Act)(w:World),(execOp a.eval o).run P w=.ok (.value (.pointer (some ⟨w.heap.size,0,none⟩))) (w.alloc (.cells z.cells e)):=λa w=>by have ay:(zeroValue e).run P w=.ok z w:=(by simp[zeroValue,typeInfo,g1,g2]);simp[execOp,au,Instr.alloc,ay,newVar,newRow]
 have aB:w.drew.heap.size=w.heap.size:=rfl;have M:∀S:GW,CG w.drew S->∀b,b<w.heap.size->b∉S.1:=λS H b hb hm=>by have:=(H.2 b hm).1;omega
 have J:∀w',Keep qe w.drew w'->∀b o x,g.D b o->w.cell? ⟨b,o,none⟩=some x->w'.cell? ⟨b,o,none⟩=some x:=λw' hk b o x _ hx=>qa (qu hk) (show b<w.drew.heap.size from qF hx) hx;have V:Pl.walkG (J1 P (QL B nt Q)) a (([],w.drew):GW) (CG w.drew) (λa S=>wpList P l.toArray (QL B nt Q) (l.drop (A+1)) a S.2) (l.take A++[o]) []:=by
  refine Pl.walkG_of _ _ ?_;have:=yp (P:=P) (D:=λb o=>g.D b o\/w.heap.size<=b) (ρ:=g.ρ) (Q:=QL B nt Q) (E:=λah=>∀S,CG w.drew S->Pl.Kpo.kp (([],w.drew):GW) S->Pl.finG (λa S=>wpList P l.toArray (QL B nt Q) (l.drop (A+1)) a S.2) S ah a) (s0:=s) (a0:=a) (w0:=w.drew) (nh:=A) (nh':=A+1) (Nat.le_succ _) (Pl.chkR_of L.1) (l2:=[o]) (K:=qZ P fr (is.take A) s (is.drop A) (Q .n))
   (λS H t=>(h.1.slots t).mono (λb o G=>⟨.inl G,M S H b (h.1.dlt b o G)⟩) (J S.2 H.1) (Zp _) λ_ _=>rfl)
   (λS H i cs hi=>by
     obtain⟨_,vs,e,hv,hz,hb⟩:=h.1.boxes i cs hi;have ab:g.ρ i<w.drew.heap.size:=h.1.ρlt (Zw.1 hi).1;exact⟨vs,e,(H.1.block _ ab λh=>h).trans hv,hz,λj p hp=>⟨(hb j p hp).1.mono (λb o G=>⟨.inl G,M S H b (h.1.dlt b o G)⟩) (J S.2 H.1) (Zp _) λ_ _=>rfl,(hb j p hp).2⟩⟩)
   (λS H=>h.1.gl.mono (λb o G=>⟨.inl G,M S H b (h.1.dlt b o G)⟩) (J S.2 H.1)) (λb o hb=>.inr hb)
   (fun ps hdd hln hds hown ab ⟨s',hE,hK⟩=>by
     refine⟨VA z.cells e,λu S S' h hk=>VA.stab h hk,?_,λS H _=>?_⟩
     .unfold Pl.stepOk;rw[Y];intro N S H _ _ K hK;show o.upon P N (λN w'=>∃F',K N (F',w')) (QL B nt Q) ((execOp N.eval o).run P S.2);rw[ag];have Z:Keep qe S.2 (S.2.alloc (.cells z.cells e)):=(Keep.refl _ _).alloc _;refine⟨S.2.heap.size::S.1,hK _ (S.2.heap.size::S.1,_) ⟨Z,λb hb=>Wn _ hb,λb hb=>?_⟩ ⟨H.1.trans Z,λb hb=>?_⟩ ⟨_,WG,rfl,tn _ _⟩⟩
      .rcases wi.1 hb with rfl|hb
       .exact .inr (Zp _)
       .exact .inl hb
      .rcases wi.1 hb with rfl|hb
       .exact⟨H.1.size,b6⟩
       .exact⟨(H.2 b hb).1,Vm (H.2 b hb).2 Z.size⟩
     .have hb:=qu H.1;refine ki _ _ ?_;have hg:R B ⟨λb o=>((g.D b o\/w.heap.size<=b)/\b∉S.1)/\b<S.2.heap.size,g.ρ⟩ s (zB a) S.2:=h.1.drew.grow hb _ (λb o G=>⟨⟨.inl G,M S H b (h.1.dlt b o G)⟩,Vm (h.1.dlt b o G) hb.size⟩) (λb o G=>G.1.1) (λb o G=>G.2);refine yL ps s a hdd hown ab (λb o G=>G) ⟨hg,h.2⟩ rfl λN O ac=>?_;have aj:=O.eqS hE;rw[U];intro u hu;obtain⟨b,m1,rfl,m3⟩:=hu;have ak:=(H.2 b m1).1;rw[ae]at hK;have ai:ze P r (Q .n) (PS.put ⟨s'.t,s'.b++[z.cells.toList.map Q6]⟩ (some d) (.bx s'.b.length 0)):=hK;have ar:s'.b.length=s.b.length:=(by rw[hE.2,qp]);have X:=yT (D:=λb o=>((g.D b o\/w.heap.size<=b)/\b∉S.1)/\b<S.2.heap.size) (w:=S.2) g4;have ax:∀u q,zQ ⟨λb o=>((g.D b o\/w.heap.size<=b)/\b∉S.1)/\b<S.2.heap.size,g.ρ⟩ s' (zB N) S.2 u q->q.own≠none->zQ g s (zB a) w u q:=by
       rintro u q (⟨t,rfl,rfl⟩|⟨i,j,cs,q1,q2,q3⟩) ho
       .rw[hE.1]at ho⊢;rcases jk (D:=g.D) (ρ:=g.ρ) (nb:=s.b.length) (t:=t) ps s hdd with⟨p,av,_,e2⟩|⟨e1,e2⟩
        .rw[e2]at ho;exact absurd (hown _ av) ho
        .rw[e2];refine .inl ⟨t,ac t λx hx e=>?_,rfl⟩;exact ZP (D:=g.D) (ρ:=g.ρ) (nb:=s.b.length) ps x.2 (by rw[<-e];exact hx) e1
       .rw[hE.2,qp]at q1;refine .inr ⟨i,j,cs,q1,q2,?_⟩;rw[<-q3];exact(hb.cell (p:=⟨g.ρ i,j,none⟩) (h.1.ρlt (Zw.1 q1).1)).symm
      have ad:=aj.1.boxAt (some d) z.cells e (z.cells.toList.map Q6) X.1 m3 (.inl (V1 h.1.fr.size ak)) (λi hi e=>by
       rw[ar]at hi;have:=h.1.ρlt hi;have e':g.ρ i=b:=e;omega) (λo G=>G.1.2 m1) (λu q hs ho e=>by
       have aw:=ax u q hs ho;have:=(zX (h.1.owns u q aw) ho e).1;omega) (λi p hp=>⟨.dat (X.2 i p hp).1,(X.2 i p hp).2⟩) (λp hp=>by
       obtain⟨v,_,rfl⟩:=wB.1 hp;unfold Q6;split<;>rfl)
      have an:∀t,some d=some t->t<N.tmps.size:=λt ht=>(by cases ht;rw[U]at T;rw[O.2.2];simpa[vd]using T);rw[<-zN an]at ad;exact list_sound _ _ _ _ _ _ hr ai ⟨ad,by rw[(zD _ _ _).2];exact O.2.1,by rw[(zD _ _ _).1];exact O.2.2⟩)
   (l.take A) (is.take A) [] s (EqS.refl _) am a9 (λj hj=>by
     have aq:j<A:=(by simp at hj;omega);simp[wt,aq]) (λj x h=>by simp at h) List.Pairwise.nil b6 hq
  simpa[qw]using this
 rw[<-ho,<-vj (show A<l.length by omega)]at V;refine Pl.gready (Ω:=GW) (ops:=l.toArray) (a0:=a) (w0:=([],w.drew)) (C:=CG w.drew) rfl (J1 P (QL B nt Q)) (λi K a S=>wpOp P l.toArray (QL B nt Q) i (λN w'=>∃F',K N (F',w')) a S.2) (λn I a S=>wpAny P .any l.toArray (QL B nt Q) n I a S.2) (λa S=>QL B nt Q .normal a S.2) (λk a S=>wpList P l.toArray (QL B nt Q) (l.drop k) a S.2)
  ?_ (λi K K' a w hk hs=>Tq (λa w ⟨F,h⟩=>⟨F,hk _ _ h⟩) hs) (λI a w h1 h2=>⟨h1,h2⟩) (λaz I a w h1 h2=>⟨h1,λi hi=>Tq (λa w ⟨F,h⟩=>h) (h2 i hi)⟩) ?_ ?_ L.1 L.2 h.2.2 ⟨Keep.refl _ _,λb hb=>by cases hb⟩ V
 .intro i o K a S ho hs;unfold wpOp;simp only[ho];split
  .rename_i hw;rw[vD hw]at hs;exact .inl hs
  .rename_i hw;rw[Vq hw]at hs;exact⟨S.1,hs⟩
 .intro k a S hk ht;have af:k<l.length:=(dJ hk);simp only[VS af,wpList]at ht;unfold wpOp;simp only[wF,Zv af];split
  .rename_i hw;rw[vD hw]at ht;exact ht.imp (Tu λa w h=>⟨[],h⟩) id
  .rename_i hw;rw[Vq hw]at ht;exact⟨[],ht⟩
 .intro a w ht;simpa[wpList]using ht
def zeR{u:Array Oper}{w nt:Nat}(h:zeQ u w nt=true):w+2<=u.size/\Pl.ChkR u (w+1) nt/\(∀i,i<w->∃j,j<=w+1/\i<j/\j≠w/\edge u j i=true)/\(w+2<u.size->edge u (w+2) w=true):=by
 unfold zeQ at h;simp only[V0,wK,WO,wG,WH]at h;obtain⟨⟨⟨E,F⟩,G⟩,H⟩:=h;refine⟨E,λi hi=>?_,λi hi=>?_,λN=>H.resolve_left a8⟩
 .have h:=F i hi;cases ho:u[i]? with
  |none=>simp[ho]at h
  | some o=>
    simp only[ho,V0,wK]at h;obtain⟨⟨O,y⟩,B⟩:=h;refine⟨o,rfl,O,?_,?_⟩
    .intro j b M;simp only[M,V0,wG]at y;exact⟨y.1.1,y.1.2,y.2⟩
    .intro d L;simp only[L,V0,wG,wK,WO,WH,Wk,W9]at B;exact⟨B.1,λj C e=>(B.2 j C).resolve_right λA=>A e⟩
 .have h:=G i hi;simp only[Uw,WO,V0,wG]at h;obtain⟨j,C,⟨I,J⟩,K⟩:=h;exact⟨j,a8,I,J,K⟩
def xS(o:List PI)(K:PS->Prop):∀(j:List PI)(s:PS),zf P (j++o) K s=zf P j (zf P o K) s
 |[],s=>rfl
 |i::j,s=>by have e:zf P (j++o) K=zf P j (zf P o K):=funext λs=>xS o K j s;simp only[yb,zf,e]
def zfF{j:List (Option Tmp×Pl.VP GW)}{d t:Nat}{V:Pl.VP GW}(h:d≠t):Pl.lk (j++[(some d,V)]) t=Pl.lk j t:=by
 induction j with
 |nil=>simp[Pl.lk,h]
 |cons x j ih=>obtain⟨e,o⟩:=x;simp only[yb,Pl.lk,ih]
def VL{p:PV}{K o:List PV->Prop}(h:∀u,K u->o u):qW p K->qW p o:=by
 cases p<;>intro j<;>first|exact h _ j|exact⟨j.1,h _ j.2⟩|exact j.elim
def zax{s2 s3:PS}{x y:PO}{n:Nat}{K:PS->Prop}(u:s3.ev x=s2.ev x)(w:s3.ev y=s2.ev y)(hb:s3.b=s2.b)(h:PK.e P (.st x y n) none s3 K):PK.e P (.st x y n) none s2 λj=>j.t=s2.t/\K ⟨s3.t,j.b⟩:=by
 simp only[PK.e,u,w,hb]at h⊢;split at h
 .rename_i i o hb1;split at h
  .rename_i cs hcs;exact VL (λus h=>⟨h.1,h.2.1,rfl,h.2.2⟩) h
  .exact h.elim
 .exact h.elim
def JA{fr:Prop}{l:List Oper}{is t':List PI}{m d L i0 n0:Nat}{x0 xa xb:PO}{zs:List PV}{H:List PI}{Q:PX->PS->Prop}(hc:zI P nt l.toArray l=some is)(br:is.drop m=⟨some d,none,.al zs⟩::⟨some L,none,.ex x0 i0⟩::⟨none,none,.st xa xb n0⟩::t')
 (hF:zeQ l.toArray (m+1) nt=true) (hT:yK l.toArray (m+2)=true) (aQ:d≠L) (bB:jY L xa=true) (bC:jY L xb=true) (aW:jY d x0=true) (bH:∀o,l[m+1]?=some o->d∉zA o)
 (hq:zf P (is.take m++[⟨some L,none,.ex x0 i0⟩]) (qZ P fr H s (⟨some d,none,.al zs⟩::⟨none,none,.st xa xb n0⟩::t') (Q .n)) s) (h:RA B nt g s a w) :
 wpAny P .any l.toArray (QL B nt Q) l.toArray.size (Array.replicate l.toArray.size false) a w.drew:=by
 obtain⟨ba,hR,aE,aA⟩:=zeR hF;simp only[WA]at ba;obtain⟨bp,A⟩:=qz m l is hc a8;rw[VS (show m<l.length by omega),VS (show m+1<l.length by omega),VS (show m+1+1<l.length by omega),br]at A;obtain⟨o,ho⟩:=xt (l[m]);obtain⟨of,ah⟩:∃o,l[m+1]=o:=⟨_,rfl⟩;obtain⟨os,aG⟩:∃o,l[m+1+1]=o:=⟨_,rfl⟩;rw[ho,ah,aG]at A;have one:∀{o:Oper}{l':List Oper}{d:Option Nat}{k:PK}{t:List PI},zI P nt l.toArray (o::l')=some (⟨d,none,k⟩::t)->vd nt o.dst=true/\o.guard=none/\o.dst=d/\XR P o=some k/\zI P nt l.toArray l'=some t:=λ{o l' d k t} A=>by
  simp only[zI,Z3]at A;obtain⟨k',hk,r,hr,A⟩:=A;split at A
  .rename_i ag;split at A
   .rename_i aC;simp only[wN,Ws,PI.mk.injEq]at A;exact⟨ag,aC,A.1.1,by rw[<-A.1.2.2];exact hk,by rw[<-A.2];exact hr⟩
   .simp only[Z3]at A;obtain⟨t,_,A⟩:=A;split at A
    .simp only[wN,Ws,PI.mk.injEq]at A;cases A.1.2.1
    .cases A
  .cases A
 obtain⟨ag,aC,X,hk,bq⟩:=one A;obtain⟨an,aR,M,aU,aO⟩:=one bq;obtain⟨bN,bw,U,bA,hr⟩:=one aO;rw[xS]at hq;obtain⟨e,bD,hz⟩:=vo hk;obtain⟨i,z,g1,g2,rfl,g4⟩:=qJ hz;have aZ:∀(a:Act)(w:World),(execOp a.eval o).run P w=.ok (.value (.pointer (some ⟨w.heap.size,0,none⟩))) (w.alloc (.cells z.cells e)):=λa w=>by have bL:(zeroValue e).run P w=.ok z w:=(by simp[zeroValue,typeInfo,g1,g2]);simp[execOp,bD,Instr.alloc,bL,newVar,newRow]
 have bO:w.drew.heap.size=w.heap.size:=rfl;have Y:∀S:GW,CG w.drew S->∀b,b<w.heap.size->b∉S.1:=λS G b hb hm=>by have:=(G.2 b hm).1;omega
 have O:∀Z,Keep qe w.drew Z->∀b o x,g.D b o->w.cell? ⟨b,o,none⟩=some x->Z.cell? ⟨b,o,none⟩=some x:=λZ hk b o x _ hx=>qa (qu hk) (show b<w.drew.heap.size from qF hx) hx;have aV:∀I:Act,I.tmps.size=nt->∀t,some d=some t->t<I.tmps.size:=λI ha t ht=>by cases ht;rw[X]at ag;rw[ha];simpa[vd]using ag
 have aq:∀I:Act,I.tmps.size=nt->∀t,some L=some t->t<I.tmps.size:=λI ha t ht=>by cases ht;rw[M]at an;rw[ha];simpa[vd]using an
 have h0:∀S:GW,CG w.drew S->∀t,Rel (λb o=>(g.D b o\/w.heap.size<=b)/\b∉S.1) g.ρ s.b.length S.2 (a.tmps.getD t undef) (s.get t):=λS G t=>(h.1.slots t).mono (λb o J=>⟨.inl J,Y S G b (h.1.dlt b o J)⟩) (O S.2 G.1) (Zp _) λ_ _=>rfl;have am:∀S:GW,CG w.drew S->∀(i:Nat) cs,s.b[i]?=some cs->zaA ⟨λb o=>(g.D b o\/w.heap.size<=b)/\b∉S.1,g.ρ⟩ s.b.length S.2 i cs:=λS G i cs hi=>by obtain⟨_,vs,e,hv,hz,hb⟩:=h.1.boxes i cs hi;have aF:g.ρ i<w.drew.heap.size:=h.1.ρlt (Zw.1 hi).1;exact⟨vs,e,(G.1.block _ aF λh=>h).trans hv,hz,λj p hp=>⟨(hb j p hp).1.mono (λb o J=>⟨.inl J,Y S G b (h.1.dlt b o J)⟩) (O S.2 G.1) (Zp _) λ_ _=>rfl,(hb j p hp).2⟩⟩
 have aS:∀ S:GW,CG w.drew S->GL (λb o=>(g.D b o\/w.heap.size<=b)/\b∉S.1) S.2:=λS G=>h.1.gl.mono (λb o J=>⟨.inl J,Y S G b (h.1.dlt b o J)⟩) (O S.2 G.1);obtain⟨V,av⟩:∃V:Nat->(Act->GW->Prop)->Act->GW->Prop,V=λi K a S=>wpOp P l.toArray (QL B nt Q) i (λI Z=>∃F',K I (F',Z)) a S.2:=⟨_,rfl⟩;obtain⟨T,az⟩:∃T:Nat->Act->GW->Prop,T=λk a S=>wpList P l.toArray (QL B nt Q) (l.drop k) a S.2:=⟨_,rfl⟩;have ax:Pl.walkE (J1 P (QL B nt Q)) a (([],w.drew):GW) (CG w.drew) (λac=>(∀S,CG w.drew S->Pl.Kpo.kp (([],w.drew):GW) S->Pl.finG (T (m+1+1)) S ac a)/\∀S,CG w.drew S->Pl.Kpo.kp (([],w.drew):GW) S->Pl.finG (λa S=>V (m+1+1) (λa S=>V (m+1) (T (m+1+2)) a S) a S) S (ac.take (m+1)) a) (l.take m++[o,of]) []:=by
  have:=yp (P:=P) (D:=λb o=>g.D b o\/w.heap.size<=b) (ρ:=g.ρ) (Q:=QL B nt Q) (E:=λac=>(∀S,CG w.drew S->Pl.Kpo.kp (([],w.drew):GW) S->Pl.finG (T (m+1+1)) S ac a)/\∀S,CG w.drew S->Pl.Kpo.kp (([],w.drew):GW) S->Pl.finG (λa S=>V (m+1+1) (λa S=>V (m+1) (T (m+1+2)) a S) a S) S (ac.take (m+1)) a) (s0:=s) (a0:=a) (w0:=w.drew) (nh:=m) (nh':=m+2) a8 hR (l2:=[o,of])
   (K:=zf P [⟨some L,none,.ex x0 i0⟩] (qZ P fr H s (⟨some d,none,.al (z.cells.toList.map Q6)⟩::⟨none,none,.st xa xb n0⟩::t') (Q .n)))
   h0 am aS (λb o hb=>.inr hb)
   (fun ps hdd hln hds hown aF ⟨s',hE,hK⟩=>by
     have hK:PK.q P s' (.ex x0 i0) λp=>p.own=none/\qZ P fr H s (⟨some d,none,.al (z.cells.toList.map Q6)⟩::⟨none,none,.st xa xb n0⟩::t') (Q .n) (s'.put (some L) p):=hK;obtain⟨p,⟨bF,hK⟩,h2⟩:=zat (.ex x0 i0) _ hK;have ao:s'.b.length=s.b.length:=(by rw[hE.2,qp]);obtain⟨s2,ai⟩:=xt (PS.put ⟨s'.t,s'.b++[z.cells.toList.map Q6]⟩ (some d) (.bx s'.b.length 0));obtain⟨s3,aH⟩:=xt (PS.put ⟨(s'.put (some L) p).t,s'.b++[z.cells.toList.map Q6]⟩ (some d) (.bx s'.b.length 0));have aJ:PK.e P (.st xa xb n0) none s3 (ze P t' (Q .n)):=(by rw[<-aH];exact hK);have ae:s2.t=(d,.bx s'.b.length 0)::s'.t:=(by rw[<-ai];rfl);have au:s3.t=(d,.bx s'.b.length 0)::(L,p)::s'.t:=(by rw[<-aH];rfl);have ar:s3.b=s2.b:=(by rw[<-aH,<-ai];rfl);have ak:∀x,jY L x=true->s3.ev x=s2.ev x:=λx hx=>by
      cases x with
      |t i=>simp only[jY,Wk,W9]at hx;show yr s3.t i=yr s2.t i;rw[au,ae];simp only[yr];rw[Vq (λe:L=i=>hx e.symm)]
      |c p=>rfl
      |f p=>rfl
     have aj:∀b',EqS ⟨(L,p)::s2.t,b'⟩ ⟨s3.t,b'⟩:=λb'=>by
      refine⟨λt=>?_,rfl⟩;show yr ((L,p)::s2.t) t=yr s3.t t;rw[au,ae];simp only[yr];by_cases e1:L=t
      .rw[vD e1,Vq (λe2=>aQ (e2.trans e1.symm)),vD e1]
      .rw[Vq e1,Vq e1]
     -- at the end of the head,but for what floats
     have ab:∀S:GW,CG w.drew S->∀(F:Act->GW->Prop)(l2:List (Option Tmp×Pl.VP GW)),(∀(a2:Act)(g2:Gh),RA B nt g2 s2 a2 S.2->(∀u,VG (λb o=>g.D b o\/w.heap.size<=b) g.ρ s.b.length p u S->Rel g2.D g2.ρ s2.b.length S.2 u p)->Pl.finG F S l2 a2)->Pl.finG F S (qw (λb o=>g.D b o\/w.heap.size<=b) g.ρ s.b.length ps++((some d,VA z.cells e)::l2)) a:=λS G F l2 hF=>by
      have hb:=qu G.1;refine ki _ _ ?_;have hg:R B ⟨λb o=>((g.D b o\/w.heap.size<=b)/\b∉S.1)/\b<S.2.heap.size,g.ρ⟩ s (zB a) S.2:=h.1.drew.grow hb _ (λb o J=>⟨⟨.inl J,Y S G b (h.1.dlt b o J)⟩,Vm (h.1.dlt b o J) hb.size⟩) (λb o J=>J.1.1) (λb o J=>J.2);refine yL ps s a hdd hown aF (λb o J=>J) ⟨hg,h.2⟩ rfl λI af aI=>?_;have bl:=af.eqS hE;intro u hu;obtain⟨b,m1,rfl,m3⟩:=hu;have bn:=(G.2 b m1).1;have aB:=yT (D:=λb o=>((g.D b o\/w.heap.size<=b)/\b∉S.1)/\b<S.2.heap.size) (w:=S.2) g4;have bJ:∀u q,zQ ⟨λb o=>((g.D b o\/w.heap.size<=b)/\b∉S.1)/\b<S.2.heap.size,g.ρ⟩ s' (zB I) S.2 u q->q.own≠none->zQ g s (zB a) w u q:=by
       rintro u q (⟨t,rfl,rfl⟩|⟨i,j,cs,q1,q2,q3⟩) ho
       .rw[hE.1]at ho⊢;rcases jk (D:=g.D) (ρ:=g.ρ) (nb:=s.b.length) (t:=t) ps s hdd with⟨p,bE,_,e2⟩|⟨e1,e2⟩
        .rw[e2]at ho;exact absurd (hown _ bE) ho
        .rw[e2];refine .inl ⟨t,aI t λx hx e=>?_,rfl⟩;exact ZP (D:=g.D) (ρ:=g.ρ) (nb:=s.b.length) ps x.2 (by rw[<-e];exact hx) e1
       .rw[hE.2,qp]at q1;refine .inr ⟨i,j,cs,q1,q2,?_⟩;rw[<-q3];exact(hb.cell (p:=⟨g.ρ i,j,none⟩) (h.1.ρlt (Zw.1 q1).1)).symm
      have aK:=bl.1.boxAt (some d) z.cells e (z.cells.toList.map Q6) aB.1 m3 (.inl (V1 h.1.fr.size bn)) (λi hi e=>by
       rw[ao]at hi;have:=h.1.ρlt hi;have e':g.ρ i=b:=e;omega) (λo J=>J.1.2 m1) (λu q hs ho e=>by
       have bI:=bJ u q hs ho;have:=(zX (h.1.owns u q bI) ho e).1;omega) (λi p hp=>⟨.dat (aB.2 i p hp).1,(aB.2 i p hp).2⟩) (λp hp=>by
       obtain⟨v,_,rfl⟩:=wB.1 hp;unfold Q6;split<;>rfl)
      rw[<-zN (aV I af.2.2),ai]at aK;refine hF _ _ ⟨aK,by rw[(zD _ _ _).2];exact af.2.1,by rw[(zD _ _ _).1];exact af.2.2⟩ λu hu=>?_;refine(Rel.restrict hu).mono (λb o J=>J) (λ_ _ _ _ h=>h) (by rw[<-ai];simp[PS.put,ao]) λi hi=>?_;show (if i=s'.b.length then b else g.ρ i)=g.ρ i;rw[Vq a8]
     refine⟨VA z.cells e,λu S S' h hk=>VA.stab h hk,?_,VG (λb o=>g.D b o\/w.heap.size<=b) g.ρ s.b.length p,λu S S' h hk=>VG.stab h hk,?_,λS G _=>?_,λS G _=>?_⟩
     .unfold Pl.stepOk;rw[aC];intro I S G _ _ K hK;show o.upon P I (λI Z=>∃F',K I (F',Z)) (QL B nt Q) ((execOp I.eval o).run P S.2);rw[aZ];have aD:Keep qe S.2 (S.2.alloc (.cells z.cells e)):=(Keep.refl _ _).alloc _;refine⟨S.2.heap.size::S.1,hK _ (S.2.heap.size::S.1,_) ⟨aD,λb hb=>Wn _ hb,λb hb=>?_⟩ ⟨G.1.trans aD,λb hb=>?_⟩ ⟨_,WG,rfl,tn _ _⟩⟩
      .rcases wi.1 hb with rfl|hb
       .exact .inr (Zp _)
       .exact .inl hb
      .rcases wi.1 hb with rfl|hb
       .exact⟨G.1.size,b6⟩
       .exact⟨(G.2 b hb).1,Vm (G.2 b hb).2 aD.size⟩
     .unfold Pl.stepOk;rw[aR];intro I S G _ aX K2 bi;have aY:Rd (λb o=>(g.D b o\/w.heap.size<=b)/\b∉S.1) g.ρ s' (zB I) (zA of) S.2:=by
       refine⟨λt ht=>?_,λi cs aP=>?_,aS S G⟩
       ·rw [hE.2,qp,hE.1];have bt:d≠t:=λe=>bH of (by rw[Zv (show m+1<l.length by omega),ah]) (by rw[e];exact ht);revert ht;generalize zA of=ts at aX⊢;induction ts with
        |nil=>intro ht;cases ht
        | cons t' ts ih=>
          intro ht;obtain⟨h1,h2⟩:=aX;rcases wi.1 ht with rfl|ht
          .rw[X,zfF bt]at h1;rcases jk (D:=λb o=>g.D b o\/w.heap.size<=b) (ρ:=g.ρ) (nb:=s.b.length) (t:=t) ps s hdd with⟨p,_,e1,e2⟩|⟨e1,e2⟩
           .rw[e1]at h1;obtain⟨u,hu,hv⟩:=h1;rw[e2];have:zB I t=u:=hu.2.1;rw[this];exact hv
           .rw[e1]at h1;rw[e2];have:zB I t=a.tmps.getD t undef:=h1.2.1;rw[this];exact h0 S G t
          .exact ih h2 ht
       .rw[hE.2,qp]at aP⊢;exact am S G i cs aP
      obtain⟨p',rfl,_,bG⟩:=y9 aU aY h2;refine bG (λI Z=>∃F',K2 I (F',Z)) (QL B nt Q) λu Z hb hrel _=>⟨S.1,?_⟩;have ad:Keep qe S.2 Z:=Keep.of_below' hb (Zp _);refine bi u (S.1,Z) ⟨ad,λ_ h=>h,λ_ h=>.inl h⟩ ⟨G.1.trans ad,λb aN=>⟨(G.2 b aN).1,Vm (G.2 b aN).2 ad.size⟩⟩ ?_;rw[hE.2,qp]at hrel;refine Rel.mono hrel (λb o h=>?_) (λ_ _ _ _ h=>h) (Zp _) λ_ _=>rfl;rcases h with h|h
      .exact h
      .exact⟨.inr (V1 G.1.size h),λhm=>by have:=(G.2 b hm).2;omega⟩
     .rw[X,M,wQ];refine ab S G _ _ λa2 g2 hA hV=>?_;intro u hu;have aL:=hA.1.put (some L) (hV u hu) (.none bF);rw[<-zN (aq a2 hA.2.2)]at aL;rw[az];show wpList P l.toArray (QL B nt Q) (l.drop (m+1+1)) (a2.put (some L) u) S.2;rw[VS (show m+1+1<l.length by omega),aG];exact list_sound _ _ ⟨s3.t,s3.b⟩ _ _ _ aO aJ (RA.eqS ⟨aL,by rw[(zD _ _ _).2];exact hA.2.1,by rw[(zD _ _ _).1];exact hA.2.2⟩ (by
       obtain⟨q1,q2⟩:=aj s3.b;refine⟨λt=>(q1 t).symm.trans ?_,ar⟩;rfl))
     .have ay:(qw (λb o=>g.D b o\/w.heap.size<=b) g.ρ s.b.length ps++[(o.dst,VA z.cells e)]++[(of.dst,VG (λb o=>g.D b o\/w.heap.size<=b) g.ρ s.b.length p)]).take (m+1)=qw (λb o=>g.D b o\/w.heap.size<=b) g.ρ s.b.length ps++[(some d,VA z.cells e)]:=(by rw[Wp (by simp[qw,hln]),wm (by simp[qw,hln]),X]);rw[ay];refine ab S G _ [] λa2 g2 hA _=>?_;have bK:=zax (ak xa bB) (ak xb bC) ar aJ;have bg:=ZO (o:=os) (B:=B) (a:=a2) (w:=S.2) (s:=s2) bA (by rw[U];intro t ht;cases ht) hA.1 (by rw[U];exact bK);show V (m+1+1) _ a2 S;rw[av];simp only[wpOp,wF,Zv (show m+1+1<l.length by omega),aG];rw[vD (by simp[Region.wanted,bw])];refine .inl (bg _ _ ?_);rintro s4 g4 u4 w4 ⟨e4,ad⟩ aM;refine⟨[],?_⟩;simp only[wpOp,wF,Zv (show m+1<l.length by omega),ah];rw[vD (by simp[Region.wanted,aR])];rw[U]at aM⊢;have aw:(a2.put none u4).tmps.size=nt:=(by rw[(zD _ _ _).1];exact hA.2.2);have be:s4.ev x0=s'.ev x0:=by
       cases x0 with
       |t i=>simp only[jY,Wk,W9]at aW;show yr s4.t i=yr s'.t i;rw[e4,ae];simp only[yr];rw[Vq (λe:d=i=>aW e.symm)]
       |c p=>rfl
       |f p=>rfl
      have bu:PK.e P (.ex x0 i0) of.dst s4 λs5=>s5=⟨(L,p)::s4.t,s4.b⟩:=by
       show PK.q P s4 (.ex x0 i0) λy=>s4.put of.dst y=⟨(L,p)::s4.t,s4.b⟩;simp only[PK.q,be]at h2⊢;split at h2
       .split at h2
        .rw[h2,M];rfl
        .exact h2.elim
       .exact h2.elim
      have bh:=ZO (o:=of) (B:=B) (a:=a2.put none u4) (w:=w4) (s:=s4) aU (by rw[M];exact aq _ aw) aM bu;refine .inl (bh _ _ ?_);rintro s5 g5 u5 w5 rfl bj;refine⟨[],?_⟩;rw[az];show wpList P l.toArray (QL B nt Q) (l.drop (m+1+1+1)) _ w5;refine list_sound _ _ ⟨s3.t,s4.b⟩ _ _ _ hr ad (RA.eqS ⟨bj,?_,?_⟩ (by
       obtain⟨q1,q2⟩:=aj s4.b;refine⟨λt=>?_,rfl⟩;rw[e4];exact(q1 t).symm))
      .rw[(zD _ _ _).2,(zD _ _ _).2];exact hA.2.1
      .rw[(zD _ _ _).1];exact aw)
   (l.take m) (is.take m) [] s (EqS.refl _) bp a9 (λj hj=>by
     have bz:j<m:=(by simp at hj;omega);simp[wt,bz]) (λj x h=>by simp at h) List.Pairwise.nil b6 hq
  simpa[qw]using this
 have bc:l.take (m+1+1)=l.take m++[o,of]:=by rw[vj (show m+1<l.length by omega),vj (show m<l.length by omega),ho,ah];simp
 rw[<-bc]at ax;subst av;subst az;refine Pl.greadyF (Ω:=GW) (ops:=l.toArray) (nh:=m+1) (a0:=a) (w0:=([],w.drew)) (C:=CG w.drew) rfl (J1 P (QL B nt Q)) (λi K a S=>wpOp P l.toArray (QL B nt Q) i (λI Z=>∃F',K I (F',Z)) a S.2) (λn N a S=>wpAny P .any l.toArray (QL B nt Q) n N a S.2) (λa S=>QL B nt Q .normal a S.2) (λk a S=>wpList P l.toArray (QL B nt Q) (l.drop k) a S.2)
  ?_ (λi K K' a w hk hs=>Tq (λa w ⟨F,h⟩=>⟨F,hk _ _ h⟩) hs) (λN a w h1 h2=>⟨h1,h2⟩) (λbM N a w h1 h2=>⟨h1,λi hi=>Tq (λa w ⟨F,h⟩=>h) (h2 i hi)⟩) ?_ ?_ hR aE aA hT (dJ ba) h.2.2 ⟨Keep.refl _ _,λb hb=>by cases hb⟩ ax
 .intro i o K a S ho hs;unfold wpOp;simp only[ho];split
  .rename_i hw;rw[vD hw]at hs;exact .inl hs
  .rename_i hw;rw[Vq hw]at hs;exact⟨S.1,hs⟩
 .intro k a S hk ht;have aT:k<l.length:=(dJ hk);simp only[VS aT,wpList]at ht;unfold wpOp;simp only[wF,Zv aT];split
  .rename_i hw;rw[vD hw]at ht;exact ht.imp (Tu λa w h=>⟨[],h⟩) id
  .rename_i hw;rw[Vq hw]at ht;exact⟨[],ht⟩
 .intro a w ht;simpa[wpList]using ht
def zcP{s j:PS}(h:∀t,j.get t=s.get t)(x:PO):j.ev x=s.ev x:=by
 cases x with
 |t i=>exact h i
 |c p=>rfl
 |f p=>rfl
def zgn{k:PK}(hk:QI k=true){s u:PS}(h:∀t,u.get t=s.get t)(K:PV->Prop):PK.q P u k K=PK.q P s k K:=by
 have j:=zcP h;have o:∀y n (K:Nat->Prop),qBd u y n K=qBd s y n K:=λy n K=>by cases y<;>simp only[qBd,j]
 cases k<;>first|(simp only[PK.q,j,o];done)|cases hk
def Hist(P:Program)(j:PS->Prop):List PI->PS->List (Option Nat×PV)->Prop
 |[],s,[]=>j s
 |i::l,s,(d,p)::qs=>i.d=d/\p.own=none/\i.k.q P s (λy=>y=p)/\Hist P j l (s.put d p) qs
 |_,_,_=>False
def Hist.len{o:PS->Prop}:∀{l:List PI}{s:PS}{j:List (Option Nat×PV)},Hist P o l s j->j.length=l.length/\o (zy s j)/\j.map (·.1)=l.map (·.d)
 |[],s,[],h=>⟨rfl,h,rfl⟩
 |i::l,s,(d,p)::j,h=>by obtain⟨u,w,y⟩:=Hist.len h.2.2.2;exact⟨by simp[u],w,by simp[y,h.1]⟩
 |[],_,_::_,h=>h.elim
 |_::_,_,[],h=>h.elim
def Hist.drop{o:PS->Prop}:∀{l:List PI}{s:PS}{j:List (Option Nat×PV)}(c:Nat),Hist P o l s j->Hist P o (l.drop c) (zy s (j.take c)) (j.drop c)
 |l,s,j,0,h=>by simpa[zy]using h
 |[],s,[],c+1,h=>h
 |i::l,s,(d,p)::j,c+1,h=>by simpa[zy]using Hist.drop c h.2.2.2
 |[],_,_::_,c+1,h=>h.elim
 |_::_,_,[],c+1,h=>h.elim
def vX:∀(j:List (Option Nat×PV)){s s4:PS},(∀t,s4.get t=s.get t)->∀t,(zy s4 j).get t=(zy s j).get t
 |[],s,s4,h,t=>h t
 | (d,p)::j,s,s4,h,t=>by
   refine vX j (s:=s.put d p) (s4:=s4.put d p) (λt=>?_) t;cases d with
   |none=>exact h t
   | some d=>
     by_cases e:d=t
     .subst e;rw[zF,zF]
     .rw[zV _ _ e,zV _ _ e];exact h t
def zgD(P:Program)(Q:Exit->Act->World->Prop)(K:Act->World->Prop):List Oper->Act->World->Prop
 |[],a,w=>K a w
 |o::l,a,w=>o.wp P a w (zgD P Q K l) Q
def zd4{Y:Array Oper}{Kt:PS->Prop}{Q:Exit->Act->World->Prop}{K:Act->World->Prop}:∀(l:List PI)(lo:List Oper)(s:PS)(E:List (Option Nat×PV))(C:PS)(G:Gh)(a:Act) (w:World),Hist P Kt l s E->zI P nt Y lo=some l->(∀i∈l,i.g=none/\QI i.k=true)->(∀t,C.get t=s.get t)->RA B nt G C a w ->
 (∀L Z J,RA B nt L (zy C E) Z J->K Z J)->zgD P Q K lo a w
 | [],lo,s,E,C,G,a,w,hh,A,hs,he,h,hK=>by
   cases lo with
   | nil=>
     cases E with
     |nil=>exact hK G a w h
     |cons q E=>exact hh.elim
   | cons o lo=>
     simp only[zI,Z3]at A;obtain⟨k,_,r,_,A⟩:=A;split at A
     .split at A
      .cases A
      .simp only[Z3]at A;obtain⟨t,_,A⟩:=A;split at A<;>cases A
     .cases A
 |i::l,[],s,E,C,G,a,w,hh,A,hs,he,h,hK=>by cases A
 |i::l,o::lo,s,[],C,G,a,w,hh,A,hs,he,h,hK=>hh.elim
 | i::l,o::lo,s,(d,p)::E,C,G,a,w,hh,A,hs,he,h,hK=>by
   obtain⟨hd,hp,hq,S⟩:=hh;obtain⟨hg,X⟩:=hs i b6;simp only[zI,Z3]at A;obtain⟨k,hk,r,hr,A⟩:=A;have N:vd nt o.dst=true/\o.dst=d/\i.k=k/\r=l:=by
    split at A
    .rename_i F;split at A
     .simp only[wN,Ws]at A;obtain⟨rfl,rfl⟩:=A;exact⟨F,hd,rfl,rfl⟩
     .simp only[Z3]at A;obtain⟨t,_,A⟩:=A;split at A
      .simp only[wN,Ws]at A;obtain⟨rfl,rfl⟩:=A;cases hg
      .cases A
    .cases A
   obtain⟨F,H,rfl,rfl⟩:=N;have O:∀t,o.dst=some t->t<a.tmps.size:=λt ht=>(by rw[ht]at F;rw[h.2.2];simpa[vd]using F);have U:PK.q P C i.k λy=>y=p:=(by rw[zgn X he];exact hq);obtain⟨I,rfl,T,V⟩:=y9 hk (h.1.rd (o:=o)) U;have hE:=Z0 (K:=λs5=>s5=C.put o.dst I) O h.1 ⟨I,rfl,T,V⟩;refine hE _ _ ?_;rintro s5 L u J rfl M;refine zd4 _ lo _ E _ L _ J S hr (λj hj=>hs j (by simp[hj])) (λt=>?_) ⟨M,by rw[(zD _ _ _).2];exact h.2.1,by rw[(zD _ _ _).1];exact h.2.2⟩ (λg6 a6 w6 h6=>hK g6 a6 w6 (by
    have e:zy C ((d,I)::E)=zy (C.put o.dst I) E:=(by rw[H];rfl);rw[e];exact h6))
   rw[H];cases d with
   |none=>exact he t
   | some d=>
     by_cases e:d=t
     .subst e;rw[zF,zF]
     .rw[zV _ _ e,zV _ _ e];exact he t
def VM{k:IntKind}{n:Int}{K j:PV->Prop}(h:∀p,K p->j p):qar k n K->qar k n j:=by
 unfold qar;split
 .exact λhk=>⟨hk.1,h _ hk.2⟩
 .exact h _
def zbA{op:BinOp}{k:IntKind}{m n:Int}{K j:PV->Prop}(h:∀p,K p->j p):Xo op k m n K->Xo op k m n j:=by
 unfold Xo;split<;>first|exact VM h|exact λhk=>⟨hk.1,VM h hk.2⟩|exact λhk=>⟨hk.1,h _ hk.2⟩|exact h _|exact id
def VK{s:PS}{y:Option PO}{n:Nat}{K j:Nat->Prop}(h:∀m,K m->j m):qBd s y n K->qBd s y n j:=by
 unfold qBd;split
 .exact h _
 .unfold vR;split
  .exact λhk=>⟨hk.1,h _ hk.2⟩
  .exact id
def Kk{k:PK}(hk:QI k=true){K j:PV->Prop}(h:∀p,K p->j p):PK.q P s k K->PK.q P s k j:=by
 cases k<;>try (cases hk;done)
 case bin op x y=>
  simp only[PK.q,QB];split
  .exact λhk=>⟨hk.1,zbA h hk.2⟩
  .exact id
 case not x=>
  simp only[PK.q,qV];split
  .exact h _
  .exact id
 case cv c x=>
  simp only[PK.q,vR];split
  .exact h _
  .exact id
 case ln x=>
  simp only[PK.q,QA];split
  .exact h _
  .exact id
 case ex x i=>
  simp only[PK.q];split
  .split
   .exact h _
   .exact id
  .exact id
 case sc x lo hi n=>
  simp only[PK.q,QA];split
  .exact VK λ_=>VK λ_ hk=>⟨hk.1,hk.2.1,hk.2.2.1,h _ hk.2.2.2⟩
  .exact id
def K1{o:PS->Prop}:∀(l:List PI)(s:PS),(∀i∈l,i.g=none/\QI i.k=true)->zf P l o s->∃u,Hist P o l s u
 |[],s,_,h=>⟨[],h⟩
 |i::l,s,hg,h=>by have hi:=(hg i b6).1;have w:i.k.q P s λp=>p.own=none/\zf P l o (s.put i.d p):=(by have h:i.guard s (λs=>i.k.q P s λp=>p.own=none/\zf P l o (s.put i.d p)) (λs=>zf P l o (s.put i.d (.v undef))):=h;unfold PI.guard at h;rw[hi]at h;exact h);obtain⟨p,⟨ho,B⟩,y⟩:=zat i.k _ w;obtain⟨u,C⟩:=K1 l _ (λj A=>hg j (by simp[A])) B;exact⟨(i.d,p)::u,rfl,ho,y,C⟩
def Yv{y:PS->Prop}:∀(l:List PI)(s:PS)(o:List (Option Nat×PV)),(∀i∈l,i.g=none/\QI i.k=true)->Hist P y l s o->zf P l (λs'=>s'=zy s o) s
 |[],s,[],_,_=>rfl
 |i::l,s,(d,p)::o,hg,h=>by obtain⟨C,ho,A,B⟩:=h;have hi:=hg i b6;show i.guard s (λs'=>i.k.q P s' λw=>w.own=none/\zf P l _ (s'.put i.d w)) (λs'=>zf P l _ (s'.put i.d (.v undef)));unfold PI.guard;rw[hi.1];refine Kk hi.2 (λw u=>?_) A;subst u;refine⟨ho,?_⟩;rw[C];exact Yv l _ o (λj E=>hg j (by simp[E])) B
 |[],_,_::_,_,h=>h.elim
 |_::_,_,[],_,h=>h.elim
def KI{u:Array Oper}{w r nt:Nat}(h:zck u w r nt=true):1<=r/\w+r+1<=u.size/\Pl.ChkR u (w+r) nt/\(∀i,i<w->∃j,j<=w+r/\i<j/\¬(w<=j/\j<w+r)/\edge u j i=true)/\(∀i,w<=i->i+1<w+r->edge u (i+1) i=true)/\(w+r+1<u.size->edge u (w+r+1) (w+r-1)=true):=by
 unfold zck at h;simp only[V0,wK,WO,wG,WH]at h;obtain⟨⟨⟨⟨⟨F,G⟩,H⟩,I⟩,J⟩,A⟩:=h;refine⟨F,G,λi hi=>?_,λi hi=>?_,λi hi N=>?_,λO=>A.resolve_left a8⟩
 .have h:=H i hi;cases ho:u[i]? with
  |none=>simp[ho]at h
  | some o=>
    simp only[ho,V0,wK]at h;obtain⟨⟨P,y⟩,C⟩:=h;refine⟨o,rfl,P,?_,?_⟩
    .intro j b M;simp only[M,V0,wG]at y;exact⟨y.1.1,y.1.2,y.2⟩
    .intro d L;simp only[L,V0,wG,wK,WO,WH,Wk,W9]at C;exact⟨C.1,λj E e=>(C.2 j E).resolve_right λB=>B e⟩
 .have h:=I i hi;simp only[Uw,WO,V0,wG,Wk,U5,uN]at h;obtain⟨j,E,⟨A,Q⟩,K⟩:=h;exact⟨j,a8,A,a8,K⟩
 .have h:=J i a8;simp only[Wk,U5,uN]at h;exact h.resolve_left a8
def vW(s:PS)(j o:List (Option Nat×PV)):zy s (j++o)=zy (zy s j) o:=by simp[zy,WW]
def zfZ{C E:PS}{B o A:List (Option Nat×PV)}{m c:Nat}(L:EqS E (zy C B))(S:B.length=m)(T:o.length=m+A.length)(J:ke o)(I:∀j,j<m->(B[j]?.map (·.1))=o[j]?.map (·.1))(F:∀j,j<A.length->(A[j]?.map (·.1))=o[m+j]?.map (·.1))(N:EqS (zy E A) (zy C o)):
 EqS (zy E (A.take c)) (zy C (o.take (m+c))):=by
 refine⟨λt=>?_,by rw[qp,qp];exact L.2.trans (qp _ _)⟩;by_cases ht:∃j,c<=j/\j<A.length/\o[m+j]?.map (·.1)=some (some t)
 .obtain⟨j,P,Q,G⟩:=ht;have H:m+j<o.length:=a8;rw[Zv H]at G;have M:(o[m+j]).1=some t:=(dJ G);have no:∀i,i<m+j->∀x,o[i]?=some x->x.1≠some t:=λi hi x w e=>by
   have K:=(Zw.1 w).1;have:=wP.1 J i (m+j) K H hi;have ex:o[i]=x:=(Zw.1 w).2;rw[ex,e,M]at this;rcases this with h|h
   .cases h
   .exact h rfl
  rw[qt (o.take (m+c)) C λx w=>by
   obtain⟨i,hi⟩:=wI w;rw[wt]at hi;split at hi
   .exact no i a8 x hi
   .cases hi]
  rw[qt (A.take c) E λx w e=>by
   obtain⟨i,hi⟩:=wI w;rw[wt]at hi;split at hi
   .rename_i hic;have y:=(Zw.1 hi).1;have:=F i y;rw[hi]at this;have u:m+i<o.length:=a8;rw[Zv u]at this;refine no (m+i) a8 _ (Zv u) ?_;simp only[uS,wN]at this;rw[<-this,e]
   .cases hi]
  rw[L.1,qt B C λx w e=>by
   obtain⟨i,hi⟩:=wI w;have O:=(Zw.1 hi).1;have:=I i a8;rw[hi]at this;have u:i<o.length:=a8;rw[Zv u]at this;refine no i a8 _ (Zv u) ?_;simp only[uS,wN]at this;rw[<-this,e]]
 .have e1:(zy E A).get t=(zy E (A.take c)).get t:=by
   conv=>lhs;rw[<-Wb c A,vW]
   refine qt _ _ λx w e=>ht ?_;obtain⟨i,hi⟩:=wI w;rw[Wi]at hi;have y:=(Zw.1 hi).1;refine⟨c+i,a8,y,?_⟩;rw[<-F _ y,hi];simp[e]
  have e2:(zy C o).get t=(zy C (o.take (m+c))).get t:=by
   conv=>lhs;rw[<-Wb (m+c) o,vW]
   refine qt _ _ λx w e=>ht ?_;obtain⟨i,hi⟩:=wI w;rw[Wi]at hi;have y:=(Zw.1 hi).1;refine⟨c+i,a8,a8,?_⟩;rw[show m+(c+i)=m+c+i by omega,hi];simp[e]
  rw[<-e1,<-e2];exact N.1 t
def zag{a:PO}:∀(j:List (Option Nat×PV))(s:PS),(∀x∈j,∀d,x.1=some d->jY d a=true)->(zy s j).ev a=s.ev a:=λj s h=>by
 cases a with
 |t i=>refine qt j s λx o e=>?_;have:=h x o i e;simp[jY]at this
 |c p=>rfl
 |f p=>rfl
def JB{fr:Prop}{l:List Oper}{is t':List PI}{m r n0:Nat}{xa xb:PO}{H:List PI}{Q:PX->PS->Prop}(hc:zI P nt l.toArray l=some is)(bc:is.drop (m+r)=⟨none,none,.st xa xb n0⟩::t')
 (hK:zck l.toArray m r nt=true) (hT:yK l.toArray (m+r)=true) (be:((is.drop m).take r).all (zcU xa xb)=true)
 (hq:zf P (is.take (m+r)) (qZ P fr H s (⟨none,none,.st xa xb n0⟩::t') (Q .n)) s) (h:RA B nt g s a w) :
 wpAny P .any l.toArray (QL B nt Q) l.toArray.size (Array.replicate l.toArray.size false) a w.drew:=by
 obtain⟨bq,aT,hR,aA,ae,ax⟩:=KI hK;simp only[WA]at aT;obtain⟨ba,u⟩:=qz (m+r) l is hc a8;rw[VS (show m+r<l.length by omega),bc]at u;obtain⟨os,aB⟩:∃o,l[m+r]=o:=⟨_,rfl⟩;rw[aB]at u;have one:∀{o:Oper}{l':List Oper}{d:Option Nat}{k:PK}{t:List PI},zI P nt l.toArray (o::l')=some (⟨d,none,k⟩::t)->vd nt o.dst=true/\o.guard=none/\o.dst=d/\XR P o=some k/\zI P nt l.toArray l'=some t:=λ{o l' d k t} u=>by
  simp only[zI,Z3]at u;obtain⟨k',hk,r,hr,u⟩:=u;split at u
  .rename_i hdk;split at u
   .rename_i hg0;simp only[wN,Ws,PI.mk.injEq]at u;exact⟨hdk,hg0,u.1.1,by rw[<-u.1.2.2];exact hk,by rw[<-u.2];exact hr⟩
   .simp only[Z3]at u;obtain⟨t,_,u⟩:=u;split at u
    .simp only[wN,Ws,PI.mk.injEq]at u;cases u.1.2.1
    .cases u
  .cases u
 obtain⟨bw,bh,N,bl,hr⟩:=one u;obtain⟨aI,L⟩:=qz m (l.take (m+r)) (is.take (m+r)) ba a9;obtain⟨ih,aL⟩:∃x,(is.take (m+r)).take m=x:=⟨_,rfl⟩;obtain⟨Y,az⟩:∃x,(is.take (m+r)).drop m=x:=⟨_,rfl⟩;obtain⟨lh,ah⟩:∃x,(l.take (m+r)).take m=x:=⟨_,rfl⟩;obtain⟨U,ag⟩:∃x,(l.take (m+r)).drop m=x:=⟨_,rfl⟩;rw[<-Wb m (is.take (m+r)),aL,az,xS]at hq;rw[ah,aL]at aI;rw[ag,az]at L;have aO:lh.length=m:=by rw[<-ah];simp;omega
 have ao:U.length=r:=by rw[<-ag];simp;omega
 have aN:∀j,j<m->lh[j]?=l[j]?:=λj hj=>by rw[<-ah,wt,vD hj,wt,vD a8]
 have ac:∀j,j<r->U[j]?=l[m+j]?:=λj hj=>by rw[<-ag,Wi,wt,vD a8]
 have am:∀i∈Y,zcU xa xb i=true:=by have e:Y=(is.drop m).take r:=(by rw[<-az,List.drop_take];congr 1;omega);rw[e];exact wK.1 be
 have af:∀i∈Y,i.g=none/\QI i.k=true:=λi hi=>by have:=am i hi;simp only[zcU,V0,Option.isNone_iff_eq_none]at this;exact this.1
 have bA:w.drew.heap.size=w.heap.size:=rfl;have O:∀S:GW,CG w.drew S->∀b,b<w.heap.size->b∉S.1:=λS J b hb hm=>by have:=(J.2 b hm).1;omega
 have M:∀w',Keep qe w.drew w'->∀b o x,g.D b o->w.cell? ⟨b,o,none⟩=some x->w'.cell? ⟨b,o,none⟩=some x:=λw' hk b o x _ X=>qa (qu hk) (show b<w.drew.heap.size from qF X) X;have h0:∀S:GW,CG w.drew S->∀t,Rel (λb o=>(g.D b o\/w.heap.size<=b)/\b∉S.1) g.ρ s.b.length S.2 (a.tmps.getD t undef) (s.get t):=λS J t=>(h.1.slots t).mono (λb o I=>⟨.inl I,O S J b (h.1.dlt b o I)⟩) (M S.2 J.1) (Zp _) λ_ _=>rfl;have ak:∀S:GW,CG w.drew S->∀(i:Nat) cs,s.b[i]?=some cs->zaA ⟨λb o=>(g.D b o\/w.heap.size<=b)/\b∉S.1,g.ρ⟩ s.b.length S.2 i cs:=λS J i cs hi=>by obtain⟨_,vs,e,hv,hz,hb⟩:=h.1.boxes i cs hi;have aQ:g.ρ i<w.drew.heap.size:=h.1.ρlt (Zw.1 hi).1;exact⟨vs,e,(J.1.block _ aQ λh=>h).trans hv,hz,λj p hp=>⟨(hb j p hp).1.mono (λb o I=>⟨.inl I,O S J b (h.1.dlt b o I)⟩) (M S.2 J.1) (Zp _) λ_ _=>rfl,(hb j p hp).2⟩⟩
 have aK:∀ S:GW,CG w.drew S->GL (λb o=>(g.D b o\/w.heap.size<=b)/\b∉S.1) S.2:=λS J=>h.1.gl.mono (λb o I=>⟨.inl I,O S J b (h.1.dlt b o I)⟩) (M S.2 J.1);obtain⟨ai,ar⟩:∃ai:Nat->(Act->GW->Prop)->Act->GW->Prop,ai=λi K a S=>wpOp P l.toArray (QL B nt Q) i (λa' w'=>∃F',K a' (F',w')) a S.2:=⟨_,rfl⟩;obtain⟨T,aH⟩:∃T:Nat->Act->GW->Prop,T=λk a S=>wpList P l.toArray (QL B nt Q) (l.drop k) a S.2:=⟨_,rfl⟩;obtain⟨CT,aw⟩:∃CT:Nat->Act->GW->Prop,CT=λc a S=>zgD P (QL B nt Q) (λa w=>wpList P l.toArray (QL B nt Q) (l.drop (m+r+1)) a w) (U.drop c) a S.2:=⟨_,rfl⟩;obtain⟨E,aF⟩:∃E:List (Option Tmp×Pl.VP GW)->Prop,E=λaE=>(∀S,CG w.drew S->Pl.Kpo.kp (([],w.drew):GW) S->Pl.finG (T (m+r)) S aE a)/\∀c,c<r->∀S,CG w.drew S->Pl.Kpo.kp (([],w.drew):GW) S->Pl.finG (λa S=>ai (m+r) (CT c) a S) S (aE.take (m+c)) a:=⟨_,rfl⟩;have au:Pl.walkE (J1 P (QL B nt Q)) a (([],w.drew):GW) (CG w.drew) E (lh++U) []:=by
  have:=yp (P:=P) (D:=λb o=>g.D b o\/w.heap.size<=b) (ρ:=g.ρ) (Q:=QL B nt Q) (E:=E) (s0:=s) (a0:=a) (w0:=w.drew) (nh:=m) (nh':=m+r) a8 hR (l2:=U) h0 ak aK (λb o hb=>.inr hb)
   (K:=zf P Y (qZ P fr H s (⟨none,none,.st xa xb n0⟩::t') (Q .n)))
   (fun ps hdd hln hds hown aQ ⟨s1,ad,hK1⟩=>by
     obtain⟨y,aC⟩:=K1 Y s1 af hK1;have hh:=Yv Y s1 y af aC;obtain⟨aS,aX,aR⟩:=aC.len;have an:Y.length=r:=by
      have:=L;have aD:∀(lo:List Oper)(li:List PI),zI P nt l.toArray lo=some li->li.length=lo.length:=by
       intro lo;induction lo with
       |nil=>intro li h;cases h;rfl
       | cons o lo ih=>
         intro li h;simp only[zI,Z3]at h;obtain⟨k',hk,r,hr,h⟩:=h;have:=ih r hr;split at h
         .split at h
          .cases h;simp[this]
          .simp only[Z3]at h;obtain⟨t,_,h⟩:=h;split at h
           .cases h;simp[this]
           .cases h
         .cases h
      rw[aD _ _ L,ao]
     have aj:PK.e P (.st xa xb n0) none (zy s1 y) (ze P t' (Q .n)):=aX;have aq:∀x∈y,∀d,x.1=some d->jY d xa=true/\jY d xb=true:=λx X d hd=>(by have:x.1∈y.map (·.1):=wB.2 ⟨x,X,rfl⟩;rw[aR]at this;obtain⟨i,hi,e⟩:=wB.1 this;have hf:=am i hi;simp only[zcU,e,hd,V0]at hf;exact hf.2);have:=yp (P:=P) (D:=λb o=>g.D b o\/w.heap.size<=b) (ρ:=g.ρ) (Q:=QL B nt Q) (E:=E) (s0:=s) (a0:=a) (w0:=w.drew) (nh:=m+r) (nh':=m+r) a8 hR (l2:=[]) h0 ak aK (λb o hb=>.inr hb)
      (K:=λs'=>s'=zy s1 y)
      (fun ps2 hdd2 hln2 hds2 hown2 hlt2 ⟨s',hE2,hs'⟩=>by
        rw [hs'] at hE2;have aD:∀c,EqS (zy s1 (y.take c)) (zy s (ps2.take (m+c))):=λc=>zfZ ad hln (by rw[hln2,aS,an]) hdd2 (λj hj=>by
         have j1:j<ps.length:=a8;have j2:j<ps2.length:=a8;rw[Zv j1,Zv j2];simp only[uS,wN];rw[hds j _ (Zv j1),hds2 j _ (Zv j2)])
         (fun j hj=>by
           have bi:j<r:=(by rw[aS,an]at hj;exact hj);have j2:m+j<ps2.length:=a8;rw[Zv j2,uS,hds2 (m+j) _ (Zv j2)];have e1:y[j]?.map (·.1)=(y.map (·.1))[j]?:=(by rw[wk]);rw[e1,aR];have e2:(Y.map (·.d))[j]?=U[j]?.map Oper.dst:=by
            have aV:∀(lo:List Oper)(li:List PI),zI P nt l.toArray lo=some li->li.map (·.d)=lo.map Oper.dst:=by
             intro lo;induction lo with
             |nil=>intro li h;cases h;rfl
             | cons o lo ih=>
               intro li h;simp only[zI,Z3]at h;obtain⟨k',hk,r,hr,h⟩:=h;have:=ih r hr;split at h
               .split at h
                .cases h;simp[this]
                .simp only[Z3]at h;obtain⟨t,_,h⟩:=h;split at h
                 .cases h;simp[this]
                 .cases h
               .cases h
            rw[aV _ _ L,wk]
           rw[e2,ac j bi];have j3:m+j<l.length:=a8;unfold zJ;simp[Zv j3]) hE2
        have Z:∀S:GW,CG w.drew S->∀(c:Nat)(F:Act->GW->Prop),(∀a2,RA B nt ⟨λb o=>((g.D b o\/w.heap.size<=b)/\b∉S.1)/\b<S.2.heap.size,g.ρ⟩ (zy s1 (y.take c)) a2 S.2->F a2 S)->Pl.finG F S (qw (λb o=>g.D b o\/w.heap.size<=b) g.ρ s.b.length (ps2.take (m+c))) a:=λS J c F hF=>(by have hb:=qu J.1;have hg:R B ⟨λb o=>((g.D b o\/w.heap.size<=b)/\b∉S.1)/\b<S.2.heap.size,g.ρ⟩ s (zB a) S.2:=h.1.drew.grow hb _ (λb o I=>⟨⟨.inl I,O S J b (h.1.dlt b o I)⟩,Vm (h.1.dlt b o I) hb.size⟩) (λb o I=>I.1.1) (λb o I=>I.2);exact yL (ps2.take (m+c)) s a (hdd2.sublist (List.take_sublist _ _)) (λx X=>hown2 x (WE X)) (λx X=>hlt2 x (WE X)) (λb o I=>I) ⟨hg,h.2⟩ rfl λa' aY _=>hF a' (aY.eqS (aD c)));have bp:y.take r=y:=wm a8;have bn:ps2.take (m+r)=ps2:=wm a8;show E (qw (λb o=>g.D b o\/w.heap.size<=b) g.ρ s.b.length ps2);rw[aF];refine⟨λS J _=>?_,λc hc S J _=>?_⟩
        .have:=Z S J r (T (m+r)) λa2 hA=>(by rw[bp]at hA;rw[aH];show wpList P l.toArray (QL B nt Q) (l.drop (m+r)) a2 S.2;rw[VS (show m+r<l.length by omega),aB];exact list_sound _ _ (zy s1 y) _ _ _ u aj hA);rw[bn]at this;exact this
        .have av:(qw (λb o=>g.D b o\/w.heap.size<=b) g.ρ s.b.length ps2).take (m+c)=qw (λb o=>g.D b o\/w.heap.size<=b) g.ρ s.b.length (ps2.take (m+c)):=(by simp[qw]);rw[av];refine Z S J c _ λa2 hA=>?_;have A:zy s1 y=zy (zy s1 (y.take c)) (y.drop c):=(by rw[<-vW,Wb]);have aZ:(zy s1 y).b=(zy s1 (y.take c)).b:=(by rw[qp,qp]);have br:=zax (s2:=zy s1 (y.take c)) (s3:=zy s1 y) (by rw[A];exact zag _ _ λx X d hd=>(aq x (Wr X) d hd).1) (by rw[A];exact zag _ _ λx X d hd=>(aq x (Wr X) d hd).2) aZ aj;have ad:=ZO (o:=os) (B:=B) (a:=a2) (w:=S.2) (s:=zy s1 (y.take c)) bl (by rw[N];intro t ht;cases ht) hA.1 (by rw[N];exact br);show ai (m+r) _ a2 S;rw[ar];simp only[wpOp,wF,Zv (show m+r<l.length by omega),aB];rw[vD (by simp[Region.wanted,bh])];refine .inl (ad _ _ ?_);rintro s4 g4 u4 w4 ⟨e4,bj⟩ aG;refine⟨[],?_⟩;rw[N]at aG⊢;have aU:(a2.put none u4).tmps.size=nt:=(by rw[(zD _ _ _).1];exact hA.2.2);have aJ:(a2.put none u4).defers=B.df:=(by rw[(zD _ _ _).2];exact hA.2.1);have ab:∀t,s4.get t=(zy s1 (y.take c)).get t:=λt=>(by show yr s4.t t=yr (zy s1 (y.take c)).t t;rw[e4]);obtain⟨_,V⟩:=qz c U Y L a8;rw[aw];refine zd4 _ _ _ _ s4 g4 _ w4 (aC.drop c) V (λi hi=>af i (Wr hi)) ab ⟨aG,aJ,aU⟩ λg5 a5 w5 h5=>?_;refine list_sound _ _ ⟨(zy s1 y).t,s4.b⟩ _ _ _ hr bj (h5.eqS ⟨λt=>?_,by rw[qp]⟩);have e5:=vX (y.drop c) ab t;rw[<-A]at e5;exact e5.symm)
      U Y ps s1 ad L (by rw[hln,ao]) (λj hj=>by
       rw[hln,wF];exact(ac j a8).symm) hds hdd hown hh
     simpa using this)
   lh ih [] s (EqS.refl _) aI (by simp[aO]) (λj hj=>by
    simp only[Ww,wn,wF];exact(aN j a8).symm) (λj x h=>by simp at h) List.Pairwise.nil b6 hq
  simpa[qw]using this
 have aW:l.take (m+r)=lh++U:=by rw[<-ah,<-ag,Wb]
 rw[<-aW]at au;subst ar;subst aH;subst aF;refine Pl.greadyC (Ω:=GW) (ops:=l.toArray) (nh:=m) (r:=r) (a0:=a) (w0:=([],w.drew)) (C:=CG w.drew) rfl (J1 P (QL B nt Q)) (λi K a S=>wpOp P l.toArray (QL B nt Q) i (λa' w'=>∃F',K a' (F',w')) a S.2) (λn G a S=>wpAny P .any l.toArray (QL B nt Q) n G a S.2) (λa S=>QL B nt Q .normal a S.2) (λk a S=>wpList P l.toArray (QL B nt Q) (l.drop k) a S.2)
  ?_ (λi K K' a w hk hs=>Tq (λa w ⟨F,h⟩=>⟨F,hk _ _ h⟩) hs) (λG a w h1 h2=>⟨h1,h2⟩) (λbt G a w h1 h2=>⟨h1,λi hi=>Tq (λa w ⟨F,h⟩=>h) (h2 i hi)⟩) ?_ ?_ bq hR aA ae (dJ ax) hT (dJ aT) CT ?_ ?_ h.2.2 ⟨Keep.refl _ _,λb hb=>by cases hb⟩ au
 .intro i o K a S ho hs;unfold wpOp;simp only[ho];split
  .rename_i hw;rw[vD hw]at hs;exact .inl hs
  .rename_i hw;rw[Vq hw]at hs;exact⟨S.1,hs⟩
 .intro k a S hk ht;have aM:k<l.length:=(dJ hk);simp only[VS aM,wpList]at ht;unfold wpOp;simp only[wF,Zv aM];split
  .rename_i hw;rw[vD hw]at ht;exact ht.imp (Tu λa w h=>⟨[],h⟩) id
  .rename_i hw;rw[Vq hw]at ht;exact⟨[],ht⟩
 .intro a w ht;simpa[wpList]using ht
 .intro c a S hc ht;rw[aw]at ht⊢;have ay:c<U.length:=a8;simp only[VS ay,zgD]at ht;have aP:m+c<l.length:=a8;have e1:U[c]=l[m+c]:=by have:=ac c hc;rw[Zv ay,Zv aP]at this;exact wA this
  have bg:(U[c]).guard=none:=by
   obtain⟨_,V⟩:=qz c U Y L a8;rw[VS ay]at V;have bu:=V;simp only[zI,Z3]at V;obtain⟨k',hk,r',bz,h3⟩:=V;split at h3
   .split at h3
    .assumption
    .simp only[Z3]at h3;obtain⟨t,_,h3⟩:=h3;split at h3
     .simp only[wN]at h3;have hm:∀i,i∈Y.drop c->i.g=none:=λi hi=>(af i (Wr hi)).1;rw[<-h3]at hm;have:=hm _ WG;cases this
     .cases h3
   .cases h3
  unfold wpOp;simp only[wF,Zv aP];rw[<-e1,vD (by simp[Region.wanted,bg])];exact .inl (Tu (λa w h=>⟨[],h⟩) ht)
 .intro a S ht;rw[aw]at ht;rw[show U.drop r=[] from wE a8]at ht;exact ht
def YX{fr:Prop}(o:fr->∀k,¬B.Sb k){l:List Oper}{u:PC}{Q:PX->PS->Prop}(j:Jv P nt l=some u)(A:pW P nt fr u Q s)(h:RA B nt g s a w):wpAny P .any l.toArray (QL B nt Q) l.toArray.size (Array.replicate l.toArray.size false) a w.drew:=by
 unfold Jv at j;simp only[Z3]at j;obtain⟨is,y,j⟩:=j;split at j
 .rename_i hB;cases j;exact zcI (s:=s.clean) o (l:=l) (λt=>by rw[kT];exact PV.clean_isN _) y hB A ⟨h.1.clean,h.2⟩
 .cases j
def kg{fr:Prop}(o:fr->∀k,¬B.Sb k){l:List Oper}{y:PC}{Q:PX->PS->Prop}(j:YW P nt l=some y)(u:pW P nt fr y Q s)(h:RA B nt g s a w):wpAny P .any l.toArray (QL B nt Q) l.toArray.size (Array.replicate l.toArray.size false) a w.drew:=by
 unfold YW at j;split at j
 .rename_i x hx;cases j;exact YX o hx u h
 .unfold zct at j;simp only[Z3]at j;obtain⟨is,A,j⟩:=j;split at j
  .rename_i d zs t hdr;split at j
   .rename_i hB;cases j;exact zaY (fr:=fr) (s:=s.clean) A hdr hB u ⟨h.1.clean,h.2⟩
   .cases j
  .cases j
def YY{fr:Prop}{l:List Oper}{m:Nat}{y:PC}{Q:PX->PS->Prop}(j:Jw P nt m l=some y)(C:pW P nt fr y Q s)(h:RA B nt g s a w):wpAny P .any l.toArray (QL B nt Q) l.toArray.size (Array.replicate l.toArray.size false) a w.drew:=by
 unfold Jw at j;simp only[Z3]at j;obtain⟨is,A,j⟩:=j;split at j
 .rename_i d zs d' x i a' b' n t hdr;split at j
  .rename_i hB;cases j;simp only[V0,Wk,W9]at hB;obtain⟨⟨⟨⟨⟨⟨E,F⟩,G⟩,H⟩,I⟩,J⟩,u⟩:=hB;refine JA (fr:=fr) (s:=s.clean) A hdr E F G H I J (λo ho=>?_) C ⟨h.1.clean,h.2⟩;unfold zkX at u;rw[ho]at u;simpa using u
  .cases j
 .cases j
def Y0{fr:Prop}{l:List Oper}{y:PC}{Q:PX->PS->Prop}{j:Nat}(o:YZ P nt l j=some y)(A:pW P nt fr y Q s)(h:RA B nt g s a w):wpAny P .any l.toArray (QL B nt Q) l.toArray.size (Array.replicate l.toArray.size false) a w.drew:=by
 unfold YZ at o;by_cases u:(zgQ l j && q9 l.length (zfU l j))=true
 .rw[vD u]at o;rw[V0]at u;exact xd u.2 (YY (fr:=fr) o A h)
 .rw[Vq u]at o;cases o
def Zm{fr:Prop}{l:List Oper}{u:PC}{Q:PX->PS->Prop}(o:pW P nt fr u Q s)(h:RA B nt g s a w):∀y:List Nat,KM P nt l y=some u->wpAny P .any l.toArray (QL B nt Q) l.toArray.size (Array.replicate l.toArray.size false) a w.drew
 |[],hc=>by cases hc
 | j::r,hc=>by
   simp only[KM]at hc;cases hj:YZ P nt l j with
   |none=>rw[hj]at hc;exact Zm o h r hc
   |some x=>rw[hj]at hc;simp only[wN]at hc;subst hc;exact Y0 (fr:=fr) hj o h
def XT{fr:Prop}{l:List Oper}{y:PC}{Q:PX->PS->Prop}(j:zcv P nt l=some y)(C:pW P nt fr y Q s)(h:RA B nt g s a w):wpAny P .any l.toArray (QL B nt Q) l.toArray.size (Array.replicate l.toArray.size false) a w.drew:=by
 unfold zcv at j;by_cases u:q9 l.length (zis l)=true
 .rw[vD u]at j;refine xd u ?_;unfold zcw at j;simp only[Z3]at j;obtain⟨is,A,o⟩:=j;split at o
  .rename_i a' b' n t hdr;split at o
   .rename_i hB;cases o;simp only[V0]at hB;obtain⟨⟨E,F⟩,G⟩:=hB;exact JB (fr:=fr) (s:=s.clean) A hdr E F G C ⟨h.1.clean,h.2⟩
   .cases o
  .cases o
 .rw[Vq u]at j;cases j
def XS{fr:Prop}(o:fr->∀k,¬B.Sb k){l:List Oper}{y:PC}{Q:PX->PS->Prop}(j:zcu P nt l=some y)(u:pW P nt fr y Q s)(h:RA B nt g s a w):wpAny P .any l.toArray (QL B nt Q) l.toArray.size (Array.replicate l.toArray.size false) a w.drew:=by
 unfold zcu at j;split at j
 .rename_i x hx;cases j;exact kg o hx u h
 .split at j
  .rename_i x hx;cases j;split at hx
   .rename_i hp;exact xd hp (kg o hx u h)
   .cases hx
  .split at j
   .rename_i x hx;cases j;exact XT (fr:=fr) hx u h
   .exact Zm (fr:=fr) u h _ j
def ZF{K:PS->Prop}{Q:PX->PS->Prop}{e:Exit}{next:Act->World->Prop}(u:∀s g a w,RA B nt g s a w->K s->next a w)(h:QL B nt (kL K Q) e a w):Exit.then next (QL B nt Q) e a w:=by
 cases e<;>first|exact h.elim|exact h|(obtain⟨s,g,j,o⟩:=h;exact u s g a w j o)
def YS{id:Nat}{Q:PX->PS->Prop}{e:Exit}(h:QL B nt (jM id Q) e a w):Exit.inBlock id (QL B nt Q) e a w:=by
 cases e<;>try exact h
 rename_i id';obtain⟨s,g,o,j⟩:=h;simp only[jM]at j;simp only[Exit.inBlock];split
 .rename_i e;rw[vD e]at j;exact⟨s,g,o,j⟩
 .rename_i e;rw[Vq e]at j;exact⟨s,g,o,j⟩
def zdg{p:Nat->Prop}(h:∃n,p n):∃n,p n/\∀m,p m->n<=m:=by
 obtain⟨n,y⟩:=h;induction n using Nat.strongRecOn with
 | _ n ih=>
   by_cases o:∃m,m<n/\p m
   .obtain⟨m,u,w⟩:=o;exact ih m u w
   .exact⟨n,y,λm j=>by
     rcases wJ m n with h|h
     .exact absurd ⟨m,h,j⟩ o
     .exact h⟩
open Classical in
def JT{c:Code}{u:(PX->PS->Prop)->PS->Prop}{Q:PX->PS->Prop}(hb:∀Q s g a w,u Q s->RA B nt g s a w->c.wp P (QL B nt Q) a w)(U:pLoop u Q s)(h:RA B nt g s a w):(Code.loop c).wp P (QL B nt Q) a w:=by
 obtain⟨ι,J,S,m,V,E,F,o⟩:=U;have A:∀a w,(∃n,∃i g,J i/\m i=n/\RA B nt g (S i) a w)->∃n,(∃i g,J i/\m i=n/\RA B nt g (S i) a w)/\∀k,(∃i g,J i/\m i=k/\RA B nt g (S i) a w)->n<=k:=λa w h=>zdg h;obtain⟨μ,H⟩:∃μ:Act->World->Nat,∀a w,(∃n,∃i g,J i/\m i=n/\RA B nt g (S i) a w)->(∃i g,J i/\m i=μ a w/\RA B nt g (S i) a w)/\∀k,(∃i g,J i/\m i=k/\RA B nt g (S i) a w)->μ a w<=k:=
  ⟨λa w=>if h:∃n,∃i g,J i/\m i=n/\RA B nt g (S i) a w then Classical.choose (A a w h) else 0,λa w h=>by
   simp only[uj h];exact Uv (A a w h)⟩
 refine wp_loop (λa w=>∃n,∃i g,J i/\m i=n/\RA B nt g (S i) a w) μ ⟨_,V,g,E,rfl,h.weak F⟩ ?_;intro a w L;obtain⟨⟨i,I,O,Y,M⟩,_⟩:=H a w L;refine T2 (hb _ _ I a w (o i O) M) λe X Z N=>?_;refine ZF (λs g a w G K=>?_) N;obtain⟨j,C,T,hs⟩:=K;have y:∃n,∃i g,J i/\m i=n/\RA B nt g (S i) a w:=⟨_,j,g,C,rfl,G.weak hs⟩;have:=(H a w y).2 (m j) ⟨j,g,C,rfl,G.weak hs⟩;refine⟨y,?_⟩;omega
def Ql{fr:Prop}{O:List Nat}(I:fr->∀k,¬B.Sb k):∀(c:Code)(u:PC),qx P nt O c=some u->∀(Q:PX->PS->Prop)(s:PS)(g:Gh)(a:Act)(w:World),pW P nt fr u Q s->RA B nt g s a w->c.wp P (QL B nt Q) a w:=by
 intro c;induction c with
 |skip=>intro u j Q s g a w o h;cases j;exact wp_skip ⟨s,g,h,o⟩
 |label l=>intro u j Q s g a w o h;cases j;exact wp_label ⟨s,g,h,o⟩
 |exit id=>intro u j Q s g a w o h;cases j;exact wp_exit ⟨s,g,h,o⟩
 |ret=>intro u j Q s g a w o h;cases j;exact wp_ret ⟨s,g,h,o⟩
 | region id ops draw=>
   intro u j Q s g a w o h;simp only[qx]at j;split at j
   .cases j;exact o B g a w h
   .split at j
    .simp only[ZZ]at j;obtain⟨l,N,rfl⟩:=j;exact wp_region_list (list_sound _ _ _ _ _ _ N o h)
    .split at j
     .rename_i hm;refine TQ hm ?_;have:=XS (fr:=fr) I j o h;simpa using this
     .cases j
 |seq x y ihx ihy=>intro u j Q s g a w o h;simp only[qx,Z3,ZZ]at j;obtain⟨C,A,K,J,rfl⟩:=j;refine wp_seq (T2 (ihx C A _ s g a w o h) λe L M E=>ZF (λs g a w F G=>ihy K J Q s g a w G F) E)
 |cond c x y ihx ihy=>intro u j Q s g a w o h;simp only[qx,Z3,ZZ]at j;obtain⟨S,H,C,A,K,J,rfl⟩:=j;obtain⟨b,e1,_,F,G⟩:=xE o (Xk H λt _=>h.1.slots t);exact wp_cond_split e1 (λe=>ihx C A Q s g a w (F e) h) (λe=>ihy K J Q s g a w (G e) h)
 |block id x ih=>intro u j Q s g a w o h;simp only[qx,ZZ]at j;obtain⟨C,A,rfl⟩:=j;exact wp_block (T2 (ih C A _ s g a w o h) λe L M E=>YS E)
 |loop x ih=>intro u j Q s g a w o h;simp only[qx,ZZ]at j;obtain⟨C,A,rfl⟩:=j;exact JT (λQ s g a w o h=>ih C A Q s g a w o h) o h
 |rangeFunc f ps x y _ _=>intro u j;cases j
 |scope x ih=>intro u j Q s g a w o h;simp only[qx]at j;exact wp_scope_straight (T2 (ih u j Q s g a w o h) λe L M E=>by cases e<;>first|exact E|exact E.elim)
 |goto l=>intro u j;cases j
 |refuse y=>intro u j;cases j
end
end Go.Proofs.YtmpnbdhadjfbhaaGreatDoor
