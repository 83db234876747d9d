import Derived.Attr
import Derived.Test.YtjimggclhlnfbaaGreatProg
import Derived.Test.YtjimggclhlnfbaaGreatB11
set_option linter.unusedVariables false
set_option linter.unusedSimpArgs false
set_option maxRecDepth 100000
namespace Go.Proofs.YtjimggclhlnfbaaGreat
open Go.RowKit
section
variable {P:Program} {nt:Nat} {fr:Prop} {d:Option Nat} {t:List (Nat × PV)} {b:List (List PV)} {s:PS} {K:PS->Prop} {Q:PX->PS->Prop} {l:List PI}
theorem zb7 (i:Nat) (p:PV):PS.put ⟨t,b⟩ (some i) p=⟨(i,p)::t,b⟩:=Eq.trans rfl rfl
theorem zb6 (p:PV):PS.put ⟨t,b⟩ none p=⟨t,b⟩:=Eq.trans rfl rfl
theorem zbn (i:Nat):PS.get ⟨t,b⟩ i=yL t i:=Eq.trans rfl rfl
theorem zkr (i:Nat):PS.ev ⟨t,b⟩ (.t i)=yL t i:=Eq.trans rfl rfl
theorem zkp (p:PV):PS.ev s (.c p)=p:=Eq.trans rfl rfl
theorem zkq (f:FuncId):PS.ev s (.f f)=.fn (.func f) [] []:=Eq.trans rfl rfl
theorem zbF (j i:Nat) (p:PV) (r:List (Nat × PV)):yL ((j,p)::r) i=if j=i then p else yL r i:=Eq.trans rfl rfl
theorem zdO (i:Nat):yL [] i=.und:=Eq.trans rfl rfl
theorem zdm (n:Nat):PS.down n ⟨t,b⟩=⟨t.map fun y=>(y.1,y.2.down n),b.map fun cs=>cs.map (PV.down n)⟩:=Eq.trans rfl rfl
theorem zje:pW P nt fr .sk Q s=Q .n s:=Eq.trans rfl rfl
theorem zjc (l:List PI):pW P nt fr (.rg l) Q s=zc P l (Q .n) s:=Eq.trans rfl rfl
theorem zi9 (h l:List PI):pW P nt fr (.dr h l) Q s=ze P h (qX P fr h s.clean l (Q .n)) s.clean:=Eq.trans rfl rfl
theorem zjf (x y:PC):pW P nt fr (.sq x y) Q s=pW P nt fr x (jP (pW P nt fr y Q) Q) s:=Eq.trans rfl rfl
theorem zi7 (id:Nat) (x:PC):pW P nt fr (.bk id x) Q s=pW P nt fr x (v8 id Q) s:=Eq.trans rfl rfl
theorem zja (id:Nat):pW P nt fr (.ex id) Q s=Q (.x id) s:=Eq.trans rfl rfl
theorem zjd:pW P nt fr .rt Q s=Q .r s:=Eq.trans rfl rfl
theorem zjb (w:List Nat) (x:PC):pW P nt fr (.lp w x) Q s=pLoop (pW P nt fr x) Q s:=Eq.trans rfl rfl
theorem KS:zc P [] K s=K s:=Eq.trans rfl rfl
theorem KR:ze P [] K s=K s:=Eq.trans rfl rfl
theorem KT (h:List PI) (s0:PS):qX P fr h s0 [] K s=K s:=Eq.trans rfl rfl
theorem zb0 (h:List PI) (s0:PS) (d:Option Nat) (x y:PO) (n:Nat) (l:List PI):qX P fr h s0 (⟨d,none,.st x y n⟩::l) K s=zc P (⟨d,none,.st x y n⟩::l) K s:=by cases d<;>rfl
theorem zbX (h:List PI) (s0:PS) (d:Option Nat) (zs:List PV) (l:List PI):qX P fr h s0 (⟨d,none,.al zs⟩::l) K s=zc P (⟨d,none,.al zs⟩::l) K s:=by cases d<;>rfl
theorem zbZ (h:List PI) (s0:PS) (d:Option Nat) (x:PO) (l:List PI):qX P fr h s0 (⟨d,none,.bo x⟩::l) K s=zc P (⟨d,none,.bo x⟩::l) K s:=by cases d<;>rfl
theorem zeG (K:PS->Prop):jP K Q .n s=K s:=Eq.trans rfl rfl
theorem zeI (K:PS->Prop) (i:Nat):jP K Q (.x i) s=Q (.x i) s:=Eq.trans rfl rfl
theorem zeH (K:PS->Prop):jP K Q .r s=Q .r s:=Eq.trans rfl rfl
theorem zaC (id:Nat):v8 id Q .n s=Q .n s:=Eq.trans rfl rfl
theorem zaD (id:Nat):v8 id Q .r s=Q .r s:=Eq.trans rfl rfl
theorem zaE (id i:Nat):v8 id Q (.x i) s=if i=id then Q .n s else Q (.x i) s:=Eq.trans rfl rfl
theorem zd7 (rs:List RV) (r:PV):ZC rs r .n s=jr rs s r:=Eq.trans rfl rfl
theorem zd8 (rs:List RV) (r:PV):ZC rs r .r s=jr rs s r:=Eq.trans rfl rfl
theorem zd9 (rs:List RV) (r:PV) (i:Nat):ZC rs r (.x i) s=False:=Eq.trans rfl rfl
theorem zen (i:Nat) (r:PV):jr [.t i] s r=SubP 0 (s.get i) r:=Eq.trans rfl rfl
def VU (rs:List (List PV)) (sz:Nat):PV->Prop
 | .sl es (.r _ sz')=>es=rs/\sz'=sz
 | _=>False
theorem zea (i sz:Nat) (rs:List (List PV)):JV i rs sz .n s=VU rs sz (s.get i):=by
 show (match s.get i with | .sl es (.r _ sz')=>es=rs/\sz'=sz | _=>False)=_
 cases s.get i<;>rfl
theorem zeb (i sz:Nat) (rs:List (List PV)):JV i rs sz .r s=VU rs sz (s.get i):=by
 show (match s.get i with | .sl es (.r _ sz')=>es=rs/\sz'=sz | _=>False)=_
 cases s.get i<;>rfl
theorem zb2 (es rs:List (List PV)) (n m sz:Nat):VU rs sz (.sl es (.r n m))=(es=rs/\m=sz):=Eq.trans rfl rfl
def zjD:Option PV->PV->Prop
 | some p,r=>p.resD=true/\SubP 0 p.sh r/\r.own=none
 | none,_=>False
def zjE:Option (List PV)->PV->Prop
 | some ps,r=>ps.all PV.resD=true/\SubP 0 (.tup (ps.map PV.sh)) r
 | none,_=>False
def rvC:Option PV->Option (List PV)->Option (List PV)
 | some p,some ps=>some (p::ps)
 | _,_=>none
def rvB:Option (List PV)->Nat->Bool->Nat->Option PV
 | some cs,o,true,n=>if o+n<=cs.length then some (.agg ((cs.drop o).take n)) else none
 | some cs,o,false,_=>cs[o]?
 | none,_,_,_=>none
def rvA:PV->List (List PV)->Bool->Nat->Option PV
 | .bx j o,b,ag,n=>rvB b[j]? o ag n
 | _,_,_,_=>none
theorem zjF (i:Nat) (ag:Bool) (n:Nat) (r:PV):jr [.c i ag n] s r=zjD (RV.get s (.c i ag n)) r:=by
 show (match RV.get s (.c i ag n) with | some p=>_ | none=>False)=_
 cases RV.get s (.c i ag n)<;>rfl
theorem zjG (x y:RV) (l:List RV) (r:PV):jr (x::y::l) s r=zjE (X3 s (x::y::l)) r:=by
 have:jr (x::y::l) s r=(match X3 s (x::y::l) with | some ps=>ps.all PV.resD=true/\SubP 0 (.tup (ps.map PV.sh)) r | none=>False):=by cases x<;>rfl
 rw [this]
 cases X3 s (x::y::l)<;>rfl
theorem zgR (p r:PV):zjD (some p) r=(p.resD=true/\SubP 0 p.sh r/\r.own=none):=Eq.trans rfl rfl
theorem zgS (ps:List PV) (r:PV):zjE (some ps) r=(ps.all PV.resD=true/\SubP 0 (.tup (ps.map PV.sh)) r):=Eq.trans rfl rfl
theorem zer:X3 s []=some []:=Eq.trans rfl rfl
theorem zct (x:RV) (l:List RV):X3 s (x::l)=rvC (x.get s) (X3 s l):=by
 show ((x.get s).bind fun p=>(X3 s l).map fun ps=>p::ps)=_
 cases x.get s<;>cases X3 s l<;>rfl
theorem zjM (p:PV) (ps:List PV):rvC (some p) (some ps)=some (p::ps):=Eq.trans rfl rfl
theorem zjO (i:Nat):RV.get ⟨t,b⟩ (.t i)=some (yL t i):=Eq.trans rfl rfl
theorem zjN (i:Nat) (ag:Bool) (n:Nat):RV.get ⟨t,b⟩ (.c i ag n)=rvA (yL t i) b ag n:=by
 unfold RV.get
 simp only [zbn]
 cases yL t i<;>try rfl
 dsimp only [rvA]
 rename_i j o
 generalize b[j]? = c
 cases c<;>cases ag<;>rfl
theorem zjJ (j o:Nat) (ag:Bool) (n:Nat):rvA (.bx j o) b ag n=rvB b[j]? o ag n:=Eq.trans rfl rfl
theorem zjL (cs:List PV) (o n:Nat):rvB (some cs) o true n=if o+n<=cs.length then some (.agg ((cs.drop o).take n)) else none:=Eq.trans rfl rfl
theorem zjK (cs:List PV) (o n:Nat):rvB (some cs) o false n=cs[o]?:=Eq.trans rfl rfl
def zaw (h:List PI) (x:Nat):Bool:=h.any fun i=>i.d == some x
def cutP (P:Program) (h:List PI) (s0:PS) (n d:Nat) (E:Prop) (p:PV) (l:List PI) (K:PS->Prop) (F:Prop):Prop:=(E/\∃ keep,keepOk h n s0 keep/\zc P l K ⟨(d,p)::keep.map (fun j=>(j,s0.get j)),[]⟩)\/F
def zbl (P:Program) (h:List PI) (s0:PS) (d n sz i x:Nat) (es0 es:List (List PV)) (y:PO) (l:List PI) (K:PS->Prop) (p:PV) (s:PS):Prop:=
 (h.all fun y=>!(y.d == some i))=true/\s.get i=s0.get i/\es0=es/\(s.put (some x) (.sl es (.r n sz))).ev y=s.ev y/\zc P l K (((s.put (some x) (.sl es (.r n sz))).down n).put (some d) p)
def Zo (s:PS):List Nat->List (Nat × PV)
 | []=>[]
 | j::r=>(j,s.get j)::Zo s r
theorem Xd (s:PS):∀ l,Zo s l=l.map fun j=>(j,s.get j)
 | []=>rfl
 | j::r=>by simp [Zo,Xd s r]
theorem KE (s:PS):Zo s []=[]:=rfl
theorem Vx (s:PS) (j:Nat) (r:List Nat):Zo s (j::r)=(j,s.get j)::Zo s r:=rfl
theorem cutP.mk {h:List PI} {s0:PS} {n d:Nat} {E:Prop} {p:PV} {F:Prop} (keep:List Nat) (hE:E) (hk:keepOk h n s0 keep) (hl:zc P l K ⟨(d,p)::Zo s0 keep,[]⟩):cutP P h s0 n d E p l K F:=.inl ⟨hE,keep,hk,by rw [<-Xd];exact hl⟩
theorem cutP.full {h:List PI} {s0:PS} {n d i x:Nat} {E:Prop} {p:PV} {y:PO} {es0 es:List (List PV)} {sz:Nat} (h1:(h.all fun y=>!(y.d == some i))=true) (h2:s.get i=s0.get i) (h3:es0=es) (h4:(s.put (some x) (.sl es (.r n sz))).ev y=s.ev y) (hl:zc P l K (((s.put (some x) (.sl es (.r n sz))).down n).put (some d) p)) :
 cutP P h s0 n d E p l K (zbl P h s0 d n sz i x es0 es y l K p s):=.inr ⟨h1,h2,h3,h4,hl⟩
theorem keepOk.mk2 {h:List PI} {s0:PS} {n i j:Nat} (h1:(h.all fun y=>!(y.d == some i))=true) (h2:(h.all fun y=>!(y.d == some j))=true) (s1:xM n (s0.get i)) (s2:xM n (s0.get j)) (hd:(s0.get i).own=none\/(s0.get i).own≠(s0.get j).own):keepOk h n s0 [i,j]:=by
 refine⟨fun k hk=>?_,by simpa using hd⟩
 simp at hk
 rcases hk with rfl | rfl
 ·exact⟨h1,s1⟩
 ·exact⟨h2,s2⟩
theorem zaa (n:Nat) (x:Value):xM n (.v x)=True:=rfl
theorem K9 (n m sz:Nat) (es:List (List PV)):xM n (.sl es (.r m sz))=(m≠n/\qH es/\∀ e ∈ es,e.length=sz):=rfl
theorem zi4 (es:List (List PV)) (n m:Nat):PV.own (.sl es (.r n m))=some n:=rfl
def zgJ (P:Program) (h:List PI) (s0:PS) (d i x sz by_:Nat) (y:PO) (es:List (List PV)) (q:PV) (l:List PI) (K:PS->Prop) (s:PS):PV->Prop
 | .sl es0 (.r n sz')=>sz'=sz/\ZJ q fun es'=>(∀ e ∈ es,e.length=sz)/\(∀ e ∈ es',e.length=sz)/\(es.length+es'.length) * by_<=140737488355328/\es'≠[]/\cutP P h s0 n d (qH es/\qH es') (.sl (es++es') (.r n sz)) l K (zbl P h s0 d n sz i x es0 es y l K (.sl (es++es') (.r n sz)) s)
 | _=>False
def KQ (P:Program) (fr:Prop) (h:List PI) (s0:PS) (d x sz by_:Nat) (y:PO) (q:PV) (l:List PI) (K:PS->Prop) (s:PS):PV->Prop
 | .sl es (.n sz')=>sz'=sz/\zaw h x=true/\ZJ q fun es'=>qH es/\qH es'/\(∀ e ∈ es,e.length=sz)/\(∀ e ∈ es',e.length=sz)/\(es.length+es'.length) * by_<=140737488355328/\es'≠[]/\zc P l K ((qE h s0).put (some d) (.sl (es++es') (.r d sz)))
 | .sl es (.p i)=>fr/\zaw h x=true/\zgJ P h s0 d i x sz by_ y es q l K s (s0.get i)
 | _=>zc P (⟨some d,none,.ap (.t x) y sz by_⟩::l) K s
theorem zbY (h:List PI) (s0:PS) (d x sz by_:Nat) (y:PO) (l:List PI):qX P fr h s0 (⟨some d,none,.ap (.t x) y sz by_⟩::l) K s=KQ P fr h s0 d x sz by_ y (s.ev y) l K s (s.get x):=by
 unfold qX KQ
 simp only
 cases s.get x<;>rfl
theorem zgF (h:List PI) (s0:PS) (d x sz by_ sz':Nat) (y:PO) (q:PV) (l:List PI) (es:List (List PV)):KQ P fr h s0 d x sz by_ y q l K s (.sl es (.n sz'))=(sz'=sz/\zaw h x=true/\ZJ q fun es'=>qH es/\qH es'/\(∀ e ∈ es,e.length=sz)/\(∀ e ∈ es',e.length=sz)/\(es.length+es'.length) * by_<=140737488355328/\es'≠[]/\zc P l K ((qE h s0).put (some d) (.sl (es++es') (.r d sz)))):=rfl
theorem zgG (h:List PI) (s0:PS) (d x sz by_ i:Nat) (y:PO) (q:PV) (l:List PI) (es:List (List PV)):KQ P fr h s0 d x sz by_ y q l K s (.sl es (.p i))=(fr/\zaw h x=true/\zgJ P h s0 d i x sz by_ y es q l K s (s0.get i)):=rfl
theorem zgH (h:List PI) (s0:PS) (d x sz by_ n m:Nat) (y:PO) (q:PV) (l:List PI) (es:List (List PV)):KQ P fr h s0 d x sz by_ y q l K s (.sl es (.r n m))=zc P (⟨some d,none,.ap (.t x) y sz by_⟩::l) K s:=rfl
theorem zgI (h:List PI) (s0:PS) (d x sz by_:Nat) (y:PO) (q:PV) (l:List PI) (es:List (List PV)):KQ P fr h s0 d x sz by_ y q l K s (.sl es .z)=zc P (⟨some d,none,.ap (.t x) y sz by_⟩::l) K s:=rfl
theorem zgK (h:List PI) (s0:PS) (d i x sz by_ n sz':Nat) (y:PO) (es es0:List (List PV)) (q:PV) (l:List PI):zgJ P h s0 d i x sz by_ y es q l K s (.sl es0 (.r n sz'))=(sz'=sz/\ZJ q fun es'=>(∀ e ∈ es,e.length=sz)/\(∀ e ∈ es',e.length=sz)/\(es.length+es'.length) * by_<=140737488355328/\es'≠[]/\cutP P h s0 n d (qH es/\qH es') (.sl (es++es') (.r n sz)) l K (zbl P h s0 d n sz i x es0 es y l K (.sl (es++es') (.r n sz)) s)):=rfl
def bCt:Option PV->Prop
 | some _=>True
 | none=>False
theorem zaA (p:PV):bCt (some p)=True:=Eq.trans rfl rfl
theorem zaz:bCt none=False:=Eq.trans rfl rfl
def JE (op:BinOp) (k:IntKind) (m n:Int):PV:=match op with
 | .add=>match k with | .i64=>.v (.int .i64 (m+n)) | k=>.v (.int k (k.wrap (m+n)))
 | .sub=>match k with | .i64=>.v (.int .i64 (m - n)) | k=>.v (.int k (k.wrap (m - n)))
 | .mul=>match k with | .i64=>.v (.int .i64 (m * n)) | k=>.v (.int k (k.wrap (m * n)))
 | .quo=>match k with | .i64=>.v (.int .i64 (m.tdiv n)) | k=>.v (.int k (k.wrap (m.tdiv n)))
 | .rem=>.v (.int k (m.tmod n))
 | .eql=>.v (.bool (decide (m=n)))
 | .neq=>.v (.bool (!decide (m=n)))
 | .lss=>.v (.bool (decide (m<n)))
 | .leq=>.v (.bool (decide (m<=n)))
 | .gtr=>.v (.bool (decide (n<m)))
 | .geq=>.v (.bool (decide (n<=m)))
 | .shr=>.v (.int k (zeu k m n))
 | _=>.und
def rng (k:IntKind) (n:Int):Prop:=match k with
 | .i64 => -9223372036854775808<=n/\n<9223372036854775808
 | _=>True
def zdD (op:BinOp) (k:IntKind) (m n:Int):Prop:=match op with
 | .add=>rng k (m+n)
 | .sub=>rng k (m - n)
 | .mul=>rng k (m * n)
 | .quo=>n≠0/\rng k (m.tdiv n)
 | .rem=>n≠0
 | .shr=>0<=n
 | .eql | .neq | .lss | .leq | .gtr | .geq=>True
 | _=>False
def Ke (op:BinOp) (p q:PV):Prop:=match p,q with
 | .v (.int k a),.v (.int k' b)=>k=k'/\zdD op k a b
 | _,_=>False
def X7 (op:BinOp) (p q:PV):PV:=match p,q with
 | .v (.int k a),.v (.int _ b)=>JE op k a b
 | _,_=>.und
theorem zem {k:IntKind} {n:Int} {K:PV->Prop}:J1 k n K=(rng k n/\K (match k with | .i64=>.v (.int .i64 n) | k=>.v (.int k (k.wrap n)))):=by
 cases k<;>simp [J1,rng]
theorem zcg {op:BinOp} {p q:PV} {K:PV->Prop}:ZK op p q K=(Ke op p q/\K (X7 op p q)):=by
 unfold ZK Ke X7
 split
 ·rename_i k a k' b
  by_cases e:k=k'
  ·subst e
   cases op<;>simp [Yo,zdD,JE,zem,and_assoc]
  ·simp [e]
 ·simp
def qW:PV->Prop
 | .v (.bool _)=>True
 | _=>False
def bV:PV->Bool
 | .v (.bool c)=>c
 | _=>false
theorem xm {p:PV} {K:Bool->Prop}:qS p K=(qW p/\K (bV p)):=by
 unfold qS qW bV
 split<;>simp
def qc:PV->Prop
 | .v (.int _ _)=>True
 | _=>False
def iK:PV->IntKind
 | .v (.int k _)=>k
 | _=>.i64
def iV:PV->Int
 | .v (.int _ n)=>n
 | _=>0
theorem xq {p:PV} {K:IntKind->Int->Prop}:vq p K=(qc p/\K (iK p) (iV p)):=by
 unfold vq qc iK iV
 split<;>simp
def ym:PV->Prop
 | .sl _ _=>True
 | _=>False
def eV:PV->List (List PV)
 | .sl es _=>es
 | _=>[]
theorem vM {p:PV} {K:List (List PV)->Prop}:ZJ p K=(ym p/\K (eV p)):=by
 unfold ZJ ym eV
 split<;>simp
theorem zgc (c:Bool):qW (.v (.bool c))=True:=Eq.trans rfl rfl
theorem zkg (c:Bool):bV (.v (.bool c))=c:=Eq.trans rfl rfl
theorem zdJ (k:IntKind) (n:Int):qc (.v (.int k n))=True:=Eq.trans rfl rfl
theorem zkO (k:IntKind) (n:Int):iK (.v (.int k n))=k:=Eq.trans rfl rfl
theorem zkP (k:IntKind) (n:Int):iV (.v (.int k n))=n:=Eq.trans rfl rfl
theorem zgi (es:List (List PV)) (o:Ow):ym (.sl es o)=True:=Eq.trans rfl rfl
theorem zkk (es:List (List PV)) (o:Ow):eV (.sl es o)=es:=Eq.trans rfl rfl
theorem zft (op:BinOp) (k k':IntKind) (m n:Int):Ke op (.v (.int k m)) (.v (.int k' n))=(k=k'/\zdD op k m n):=Eq.trans rfl rfl
theorem zfu (op:BinOp) (k k':IntKind) (m n:Int):X7 op (.v (.int k m)) (.v (.int k' n))=JE op k m n:=Eq.trans rfl rfl
theorem zjI (n:Int):rng .u64 n=True:=Eq.trans rfl rfl
def Jw:PV->Prop
 | .bx _ _=>True
 | .cp _ _=>True
 | _=>False
def faV (off:Nat):PV->PV
 | .bx i o=>.bx i (o+off)
 | .cp cs o=>.cp cs (o+off)
 | _=>.und
theorem zhY (i o:Nat):Jw (.bx i o)=True:=Eq.trans rfl rfl
theorem zhZ (cs:List PV) (o:Nat):Jw (.cp cs o)=True:=Eq.trans rfl rfl
theorem zh0 (n i o:Nat):faV n (.bx i o)=.bx i (o+n):=Eq.trans rfl rfl
theorem zh1 (n:Nat) (cs:List PV) (o:Nat):faV n (.cp cs o)=.cp cs (o+n):=Eq.trans rfl rfl
def Qp (cs:List PV) (o:Nat) (ag:Bool) (n:Nat):Prop:=match ag with
 | true=>o+n<=cs.length
 | false=>cs[o]?.isSome=true
def Z0 (cs:List PV) (o:Nat) (ag:Bool) (n:Nat):PV:=match ag with
 | true=>.agg ((cs.drop o).take n)
 | false=>cs[o]?.getD .und
theorem Yn {cs:List PV} {o:Nat} {ag:Bool} {n:Nat} {K:PV->Prop}:Xy cs o ag n K=(Qp cs o ag n/\K (Z0 cs o ag n)):=by
 cases ag
 ·simp only [Xy,Qp,Z0];cases cs[o]?<;>simp
 ·simp [Xy,Qp,Z0]
theorem zhz (cs:List PV) (o n:Nat):Qp cs o true n=(o+n<=cs.length):=Eq.trans rfl rfl
theorem zhy (cs:List PV) (o n:Nat):Qp cs o false n=(cs[o]?.isSome=true):=Eq.trans rfl rfl
theorem zhB (cs:List PV) (o n:Nat):Z0 cs o true n=.agg ((cs.drop o).take n):=Eq.trans rfl rfl
theorem zhA (cs:List PV) (o n:Nat):Z0 cs o false n=cs[o]?.getD .und:=Eq.trans rfl rfl
def ldC (bs:List (List PV)) (p:PV) (ag:Bool) (n:Nat):Prop:=match p with
 | .cp cs o=>Qp cs o ag n
 | .bx i o=>bs[i]?.isSome=true/\zZ (((bs[i]?.getD []).drop o).take n)=true/\Qp (bs[i]?.getD []) o ag n
 | _=>False
def ldF (bs:List (List PV)) (p:PV):Prop:=match p with
 | .cp cs o=>Qp cs o false 1
 | .bx i o=>bs[i]?.isSome=true/\Qp (bs[i]?.getD []) o false 1
 | _=>False
theorem ziF (bs:List (List PV)) (cs:List PV) (o:Nat):ldF bs (.cp cs o)=Qp cs o false 1:=Eq.trans rfl rfl
theorem ziE (bs:List (List PV)) (i o:Nat):ldF bs (.bx i o)=(bs[i]?.isSome=true/\Qp (bs[i]?.getD []) o false 1):=Eq.trans rfl rfl
def ldV (bs:List (List PV)) (p:PV) (ag:Bool) (n:Nat):PV:=match p with
 | .cp cs o=>Z0 cs o ag n
 | .bx i o=>Z0 (bs[i]?.getD []) o ag n
 | _=>.und
theorem ziC (bs:List (List PV)) (cs:List PV) (o:Nat) (ag:Bool) (n:Nat):ldC bs (.cp cs o) ag n=Qp cs o ag n:=Eq.trans rfl rfl
theorem ziB (bs:List (List PV)) (i o n:Nat) (ag:Bool):ldC bs (.bx i o) ag n=(bs[i]?.isSome=true/\zZ (((bs[i]?.getD []).drop o).take n)=true/\Qp (bs[i]?.getD []) o ag n):=Eq.trans rfl rfl
theorem ziH (bs:List (List PV)) (cs:List PV) (o:Nat) (ag:Bool) (n:Nat):ldV bs (.cp cs o) ag n=Z0 cs o ag n:=Eq.trans rfl rfl
theorem ziG (bs:List (List PV)) (i o:Nat) (ag:Bool) (n:Nat):ldV bs (.bx i o) ag n=Z0 (bs[i]?.getD []) o ag n:=Eq.trans rfl rfl
def qv:PV->Prop
 | .agg _=>True
 | .v x=>x.oneCell'=true
 | .sl _ _=>True
 | .cp _ _=>True
 | .bx _ _=>True
 | .fn _ _ _=>True
 | .ifc _ _=>True
 | _=>False
def qk:PV->List PV
 | .agg cs=>cs
 | p=>[p]
theorem xI {p:PV} {K:List PV->Prop}:qT p K=(qv p/\K (qk p)):=by
 cases p<;>simp [qT,qv,qk]
theorem Vc (cs:List PV):qv (.agg cs)=True:=Eq.trans rfl rfl
theorem zaI (k:IntKind) (n:Int):qv (.v (.int k n))=True:=by simp [qv,Value.oneCell']
theorem zaH (c:Bool):qv (.v (.bool c))=True:=by simp [qv,Value.oneCell']
theorem Ve:qv (.v .nilIface)=True:=by simp [qv,Value.oneCell']
theorem zaJ (es:List (List PV)) (o:Ow):qv (.sl es o)=True:=Eq.trans rfl rfl
theorem Kg (i o:Nat):qv (.bx i o)=True:=Eq.trans rfl rfl
theorem Kh (f:Fn) (x y:List PV):qv (.fn f x y)=True:=Eq.trans rfl rfl
theorem Vd (t:TypeId) (x:PV):qv (.ifc t x)=True:=Eq.trans rfl rfl
theorem Vf (cs:List PV):qk (.agg cs)=cs:=Eq.trans rfl rfl
theorem zaL (x:Value):qk (.v x)=[.v x]:=Eq.trans rfl rfl
theorem zaK (es:List (List PV)) (o:Ow):qk (.sl es o)=[.sl es o]:=Eq.trans rfl rfl
theorem Ki (i o:Nat):qk (.bx i o)=[.bx i o]:=Eq.trans rfl rfl
theorem Kj (f:Fn) (x y:List PV):qk (.fn f x y)=[.fn f x y]:=Eq.trans rfl rfl
theorem Vg (t:TypeId) (x:PV):qk (.ifc t x)=[.ifc t x]:=Eq.trans rfl rfl
def vl (s:PS):List (Nat × Nat × PO)->List PV->Prop
 | [],_=>True
 | (off,n,x)::r,zs=>qv (s.ev x)/\(qk (s.ev x)).length=n/\off+n<=zs.length/\zZ (qk (s.ev x))=true/\vl s r (YI zs ((qk (s.ev x)).map PV.sh) off)
def xG (s:PS):List (Nat × Nat × PO)->List PV->List PV
 | [],zs=>zs
 | (off,_,x)::r,zs=>xG s r (YI zs ((qk (s.ev x)).map PV.sh) off)
theorem ZI {K:List PV->Prop}:∀(ps:List (Nat × Nat × PO)) (zs:List PV),vr s ps zs K=(vl s ps zs/\K (xG s ps zs))
 | [],zs=>by simp [vr,vl,xG]
 | (off,n,x)::r,zs=>by simp [vr,vl,xG,xI,ZI r,and_assoc]
def x5 (s:PS) (sz:Nat):List PO->Prop
 | []=>True
 | x::r=>qv (s.ev x)/\(qk (s.ev x)).length=sz/\zZ (qk (s.ev x))=true/\x5 s sz r
def xA (s:PS):List PO->List (List PV)
 | []=>[]
 | x::r=>(qk (s.ev x)).map PV.sh::xA s r
theorem jg {sz:Nat}:∀(ps:List PO) (K:List (List PV)->Prop),yG s sz ps K=(x5 s sz ps/\K (xA s ps))
 | [],K=>by simp [yG,x5,xA]
 | x::r,K=>by simp [yG,x5,xA,xI,jg r,and_assoc]
def bdC (s:PS):Option PO->Prop
 | none=>True
 | some y=>qc (s.ev y)/\0<=iV (s.ev y)
def Ji (s:PS) (n:Nat):Option PO->Nat
 | none=>n
 | some y=>(iV (s.ev y)).toNat
theorem JZ {y:Option PO} {n:Nat} {K:Nat->Prop}:KX s y n K=(bdC s y/\K (Ji s n y)):=by
 cases y<;>simp [KX,bdC,Ji,xq,and_assoc]
def callP (P:Program) (f:FuncId) (xs:List PV) (K:PS->Prop) (d:Option Nat) (s:PS):Prop:=∃ r,Cn P f xs r/\zZ xs=true/\K (s.put d r)
def callQ (P:Program) (f:FuncId) (xs:List PV) (K:PS->Prop) (d:Option Nat) (s:PS):Prop:=∃ r,Cn P f xs r/\zZ xs=true/\K (s.put d r.strip)
def callO (P:Program) (f:FuncId) (es:List (List PV)) (n sz:Nat) (xs:List PV) (K:PS->Prop) (d:Option Nat) (s:PS):Prop:=callP P f (.sl es .sh::xs) K d s\/∃ rs,OCn P f es sz xs rs/\zZ xs=true/\K ((s.down n).put d (.sl rs (.r n sz)))
theorem callP.mk {f:FuncId} {xs:List PV} {r:PV} (h:Cn P f xs r) (hd:zZ xs=true) (hk:K (s.put d r)):callP P f xs K d s:=⟨r,h,hd,hk⟩
theorem callQ.mk {f:FuncId} {xs:List PV} {r:PV} (h:Cn P f xs r) (hd:zZ xs=true) (hk:K (s.put d r.strip)):callQ P f xs K d s:=⟨r,h,hd,hk⟩
theorem callO.mk {f:FuncId} {es rs:List (List PV)} {n sz:Nat} {xs:List PV} (h:OCn P f es sz xs rs) (hd:zZ xs=true) (hk:K ((s.down n).put d (.sl rs (.r n sz)))):callO P f es n sz xs K d s:=.inr ⟨rs,h,hd,hk⟩
theorem callO.rd {f:FuncId} {es:List (List PV)} {n sz:Nat} {xs:List PV} {r:PV} (h:Cn P f (.sl es .sh::xs) r) (hd:zZ xs=true) (hk:K (s.put d r)):callO P f es n sz xs K d s:=.inl ⟨r,h,by simpa [zZ,PV.isD] using hd,hk⟩
def jX (s:PS) (xs:List PO):List PV:=xs.map fun x=>(s.ev x).sh
theorem zdt:jX s []=[]:=Eq.trans rfl rfl
theorem zbh (x:PO) (xs:List PO):jX s (x::xs)=(s.ev x).sh::jX s xs:=Eq.trans rfl rfl
def caD (P:Program) (f:FuncId) (p:PV) (xs:List PV) (K:PS->Prop) (d:Option Nat) (s:PS):Prop:=match p with
 | .sl es (.r n sz)=>callO P f es n sz xs K d s
 | p=>callP P f (p.sh::xs) K d s
def brP (c:PV) (X Y:PS->Prop) (s:PS):Prop:=qW c/\if bV c=true then X s else Y s
theorem zi8 (c:PO) (x y:PC):pW P nt fr (.cd c x y) Q s=brP (s.ev c) (pW P nt fr x Q) (pW P nt fr y Q) s:=by
 show qS _ _=_
 rw [xm]
 unfold brP
 cases bV (s.ev c)<;>simp
theorem zeU (X Y:PS->Prop):brP (.v (.bool true)) X Y s=X s:=by simp [brP,qW,bV]
theorem zeT (X Y:PS->Prop):brP (.v (.bool false)) X Y s=Y s:=by simp [brP,qW,bV]
theorem brP.mk {c:Bool} {X Y:PS->Prop} (h1:c=true->X s) (h2:c=false->Y s):brP (.v (.bool c)) X Y s:=by
 refine⟨trivial,?_⟩
 cases c
 ·exact h2 rfl
 ·exact h1 rfl
theorem brP.yes {c:Bool} {X Y:PS->Prop} (h:c=true) (h1:X s):brP (.v (.bool c)) X Y s:=by subst h;rw [zeU];exact h1
theorem brP.no {c:Bool} {X Y:PS->Prop} (h:c=false) (h1:Y s):brP (.v (.bool c)) X Y s:=by subst h;rw [zeT];exact h1
def JS:PV->Prop
 | .v (.bool _)=>True
 | .v (.tuple vs)=>vs=#[]
 | _=>False
def wq (p:PV) (b:Bool):Prop:=match p with
 | .v (.bool c)=>c=b
 | _=>False
instance (p:PV) (b:Bool):Decidable (wq p b):=by unfold wq;split<;>infer_instance
def noS (s:PS) (i:Nat) (b:Bool):PV->PS
 | .v (.bool _)=>s.put (some i) (.v (.bool !b))
 | _=>s
theorem ziX (c:Bool):JS (.v (.bool c))=True:=Eq.trans rfl rfl
theorem ziY:JS (.v undef)=True:=by simp [JS,undef]
theorem zlD (c b:Bool):wq (.v (.bool c)) b=(c=b):=Eq.trans rfl rfl
theorem zlE (b:Bool):wq (.v undef) b=False:=by simp [wq,undef]
theorem ziT (i:Nat) (b c:Bool):noS s i b (.v (.bool c))=s.put (some i) (.v (.bool !b)):=Eq.trans rfl rfl
theorem ziU (i:Nat) (b:Bool):noS s i b (.v undef)=s:=Eq.trans rfl rfl
theorem Qy {i:Nat} {b:Bool} {k:PK} {yes no:PS->Prop}:PI.guard ⟨d,some (i,b),k⟩ s yes no=(JS (s.get i)/\if wq (s.get i) b then yes (s.put (some i) (.v (.bool b))) else no (noS s i b (s.get i))):=by
 unfold PI.guard
 simp only
 cases h:s.get i with
 | v x=>
   cases x<;>try (simp [JS];done)
   ·rename_i c
    simp only [JS,wq,noS,true_and]
    cases c<;>cases b<;>simp
   ·simp [JS,wq,noS]
 | _=>simp [JS]
def gdP (g:PV) (i:Nat) (b:Bool) (d:Option Nat) (X Y:PS->Prop) (s:PS):Prop:=JS g/\if wq g b then X (s.put (some i) (.v (.bool b))) else Y ((noS s i b g).put d (.v undef))
theorem VO (i:Nat) (b:Bool) (k:PK):zc P (⟨d,some (i,b),k⟩::l) K s=gdP (s.get i) i b d (zc P (⟨d,none,k⟩::l) K) (zc P l K) s:=Qy
theorem VM (i:Nat) (b:Bool) (k:PK):ze P (⟨d,some (i,b),k⟩::l) K s=gdP (s.get i) i b d (ze P (⟨d,none,k⟩::l) K) (ze P l K) s:=Qy
theorem zfY (i:Nat) (X Y:PS->Prop):gdP (.v (.bool true)) i true d X Y s=X (s.put (some i) (.v (.bool true))):=by simp [gdP,JS,wq]
theorem zfV (i:Nat) (X Y:PS->Prop):gdP (.v (.bool false)) i false d X Y s=X (s.put (some i) (.v (.bool false))):=by simp [gdP,JS,wq]
theorem zfX (i:Nat) (X Y:PS->Prop):gdP (.v (.bool true)) i false d X Y s=Y ((s.put (some i) (.v (.bool true))).put d (.v undef)):=by simp [gdP,JS,wq,noS]
theorem zfW (i:Nat) (X Y:PS->Prop):gdP (.v (.bool false)) i true d X Y s=Y ((s.put (some i) (.v (.bool false))).put d (.v undef)):=by simp [gdP,JS,wq,noS]
theorem zh9 (i:Nat) (b:Bool) (X Y:PS->Prop):gdP (.v undef) i b d X Y s=Y (s.put d (.v undef)):=by simp [gdP,JS,wq,noS,undef]
theorem gdP.mkt {c:Bool} {i:Nat} {X Y:PS->Prop} (h1:c=true->X (s.put (some i) (.v (.bool true)))) (h2:c=false->Y ((s.put (some i) (.v (.bool false))).put d (.v undef))):gdP (.v (.bool c)) i true d X Y s:=by
 refine⟨trivial,?_⟩
 cases c<;>simp [wq,noS]<;>first | exact h1 rfl | exact h2 rfl
theorem gdP.mkf {c:Bool} {i:Nat} {X Y:PS->Prop} (h1:c=true->Y ((s.put (some i) (.v (.bool true))).put d (.v undef))) (h2:c=false->X (s.put (some i) (.v (.bool false)))):gdP (.v (.bool c)) i false d X Y s:=by
 refine⟨trivial,?_⟩
 cases c<;>simp [wq,noS]<;>first | exact h1 rfl | exact h2 rfl
theorem zb9 (op:BinOp) (x y:PO) {Kv:PV->Prop}:PK.q P s (.bin op x y) Kv=(Ke op (s.ev x) (s.ev y)/\Kv (X7 op (s.ev x) (s.ev y))):=by
 simp only [PK.q,zcg]
theorem zb8 (n:Bool) (x y:PO) {Kv:PV->Prop}:PK.q P s (.beq n x y) Kv=((qW (s.ev x)/\qW (s.ev y))/\Kv (.v (.bool (n != (bV (s.ev x) == bV (s.ev y)))))):=by
 simp only [PK.q,xm,and_assoc]
theorem zce (x:PO) {Kv:PV->Prop}:PK.q P s (.not x) Kv=(qW (s.ev x)/\Kv (.v (.bool (!bV (s.ev x))))):=by
 simp only [PK.q,xm]
theorem zfc (k:IntKind) (x:PO) {Kv:PV->Prop}:PK.q P s (.cv k x) Kv=(qc (s.ev x)/\Kv (.v (.int k (k.wrap (iV (s.ev x)))))):=by
 simp only [PK.q,xq]
theorem zfe (x:PO) (o:Nat) {Kv:PV->Prop}:PK.q P s (.fa x o) Kv=(Jw (s.ev x)/\Kv (faV o (s.ev x))):=by
 simp only [PK.q]
 cases s.ev x<;>simp [Jw,faV]
theorem zfg (x y:PO) (n:Nat) {Kv:PV->Prop}:PK.q P s (.ia x y n) Kv=((ym (s.ev x)/\qc (s.ev y)/\0<=iV (s.ev y)/\(eV (s.ev x))[(iV (s.ev y)).toNat]?.map List.length=some n)/\Kv (.cp ((eV (s.ev x))[(iV (s.ev y)).toNat]?.getD []) 0)):=by
 simp only [PK.q,vM,xq,and_assoc]
 cases h:(eV (s.ev x))[(iV (s.ev y)).toNat]?<;>simp [h]
theorem zcb (x:PO) (ag:Bool) (n:Nat) {Kv:PV->Prop}:PK.q P s (.ld x ag n) Kv=(ldC s.b (s.ev x) ag n/\Kv ((ldV s.b (s.ev x) ag n).strip)):=by
 simp only [PK.q]
 cases s.ev x<;>simp only [ldC,ldV,Yn,false_and]
 rename_i i o
 cases s.b[i]?<;>simp [and_assoc]
theorem zfi (x:PO) {Kv:PV->Prop}:PK.q P s (.ln x) Kv=(ym (s.ev x)/\Kv (.v (.int .i64 (eV (s.ev x)).length))):=by
 simp only [PK.q,vM]
theorem zfb (zs:List PV) (ps:List (Nat × Nat × PO)) {Kv:PV->Prop}:PK.q P s (.bd zs ps) Kv=(vl s ps zs/\Kv (.agg (xG s ps zs))):=by
 simp only [PK.q,ZI]
theorem zju (n:Nat) (ps:List PO) {Kv:PV->Prop}:PK.q P s (.bs n ps) Kv=(x5 s n ps/\Kv (.sl (xA s ps) .z)):=by
 simp only [PK.q,jg]
theorem ziu (op:BinOp) (x y:PO):zc P (⟨d,none,.bin op x y⟩::l) K s=(Ke op (s.ev x) (s.ev y)/\zc P l K (s.put d (X7 op (s.ev x) (s.ev y)))):=zb9 (P:=P) (s:=s) op x y (Kv:=fun p=>zc P l K (s.put d p))
theorem zib (op:BinOp) (x y:PO):ze P (⟨d,none,.bin op x y⟩::l) K s=(Ke op (s.ev x) (s.ev y)/\PV.own (X7 op (s.ev x) (s.ev y))=none/\ze P l K (s.put d (X7 op (s.ev x) (s.ev y)))):=zb9 (P:=P) (s:=s) op x y (Kv:=fun p=>p.own=none/\ze P l K (s.put d p))
theorem zit (n:Bool) (x y:PO):zc P (⟨d,none,.beq n x y⟩::l) K s=((qW (s.ev x)/\qW (s.ev y))/\zc P l K (s.put d (.v (.bool (n != (bV (s.ev x) == bV (s.ev y))))))):=zb8 (P:=P) (s:=s) n x y (Kv:=fun p=>zc P l K (s.put d p))
theorem zia (n:Bool) (x y:PO):ze P (⟨d,none,.beq n x y⟩::l) K s=((qW (s.ev x)/\qW (s.ev y))/\PV.own (.v (.bool (n != (bV (s.ev x) == bV (s.ev y)))))=none/\ze P l K (s.put d (.v (.bool (n != (bV (s.ev x) == bV (s.ev y))))))):=zb8 (P:=P) (s:=s) n x y (Kv:=fun p=>p.own=none/\ze P l K (s.put d p))
theorem ziA (x:PO):zc P (⟨d,none,.not x⟩::l) K s=(qW (s.ev x)/\zc P l K (s.put d (.v (.bool (!bV (s.ev x)))))):=zce (P:=P) (s:=s) x (Kv:=fun p=>zc P l K (s.put d p))
theorem zif (x:PO):ze P (⟨d,none,.not x⟩::l) K s=(qW (s.ev x)/\PV.own (.v (.bool (!bV (s.ev x))))=none/\ze P l K (s.put d (.v (.bool (!bV (s.ev x)))))):=zce (P:=P) (s:=s) x (Kv:=fun p=>p.own=none/\ze P l K (s.put d p))
theorem zk0 (k:IntKind) (x:PO):zc P (⟨d,none,.cv k x⟩::l) K s=(qc (s.ev x)/\zc P l K (s.put d (.v (.int k (k.wrap (iV (s.ev x))))))):=zfc (P:=P) (s:=s) k x (Kv:=fun p=>zc P l K (s.put d p))
theorem zkB (k:IntKind) (x:PO):ze P (⟨d,none,.cv k x⟩::l) K s=(qc (s.ev x)/\PV.own (.v (.int k (k.wrap (iV (s.ev x)))))=none/\ze P l K (s.put d (.v (.int k (k.wrap (iV (s.ev x))))))):=zfc (P:=P) (s:=s) k x (Kv:=fun p=>p.own=none/\ze P l K (s.put d p))
theorem zk1 (x:PO) (o:Nat):zc P (⟨d,none,.fa x o⟩::l) K s=(Jw (s.ev x)/\zc P l K (s.put d (faV o (s.ev x)))):=zfe (P:=P) (s:=s) x o (Kv:=fun p=>zc P l K (s.put d p))
theorem zkC (x:PO) (o:Nat):ze P (⟨d,none,.fa x o⟩::l) K s=(Jw (s.ev x)/\PV.own (faV o (s.ev x))=none/\ze P l K (s.put d (faV o (s.ev x)))):=zfe (P:=P) (s:=s) x o (Kv:=fun p=>p.own=none/\ze P l K (s.put d p))
theorem zk3 (x y:PO) (n:Nat):zc P (⟨d,none,.ia x y n⟩::l) K s=((ym (s.ev x)/\qc (s.ev y)/\0<=iV (s.ev y)/\(eV (s.ev x))[(iV (s.ev y)).toNat]?.map List.length=some n)/\zc P l K (s.put d (.cp ((eV (s.ev x))[(iV (s.ev y)).toNat]?.getD []) 0))):=zfg (P:=P) (s:=s) x y n (Kv:=fun p=>zc P l K (s.put d p))
theorem zkE (x y:PO) (n:Nat):ze P (⟨d,none,.ia x y n⟩::l) K s=((ym (s.ev x)/\qc (s.ev y)/\0<=iV (s.ev y)/\(eV (s.ev x))[(iV (s.ev y)).toNat]?.map List.length=some n)/\PV.own (.cp ((eV (s.ev x))[(iV (s.ev y)).toNat]?.getD []) 0)=none/\ze P l K (s.put d (.cp ((eV (s.ev x))[(iV (s.ev y)).toNat]?.getD []) 0))):=zfg (P:=P) (s:=s) x y n (Kv:=fun p=>p.own=none/\ze P l K (s.put d p))
theorem zkG (x:PO) (ag:Bool) (n:Nat):ze P (⟨d,none,.ld x ag n⟩::l) K s=(ldC s.b (s.ev x) ag n/\PV.own ((ldV s.b (s.ev x) ag n).strip)=none/\ze P l K (s.put d ((ldV s.b (s.ev x) ag n).strip))):=zcb (P:=P) (s:=s) x ag n (Kv:=fun p=>p.own=none/\ze P l K (s.put d p))
theorem zk5 (x:PO):zc P (⟨d,none,.ln x⟩::l) K s=(ym (s.ev x)/\zc P l K (s.put d (.v (.int .i64 (eV (s.ev x)).length)))):=zfi (P:=P) (s:=s) x (Kv:=fun p=>zc P l K (s.put d p))
theorem zkH (x:PO):ze P (⟨d,none,.ln x⟩::l) K s=(ym (s.ev x)/\PV.own (.v (.int .i64 (eV (s.ev x)).length))=none/\ze P l K (s.put d (.v (.int .i64 (eV (s.ev x)).length)))):=zfi (P:=P) (s:=s) x (Kv:=fun p=>p.own=none/\ze P l K (s.put d p))
theorem zkV (zs:List PV) (ps:List (Nat × Nat × PO)):zc P (⟨d,none,.bd zs ps⟩::l) K s=(vl s ps zs/\zc P l K (s.put d (.agg (xG s ps zs)))):=zfb (P:=P) (s:=s) zs ps (Kv:=fun p=>zc P l K (s.put d p))
theorem zkx (zs:List PV) (ps:List (Nat × Nat × PO)):ze P (⟨d,none,.bd zs ps⟩::l) K s=(vl s ps zs/\PV.own (.agg (xG s ps zs))=none/\ze P l K (s.put d (.agg (xG s ps zs)))):=zfb (P:=P) (s:=s) zs ps (Kv:=fun p=>p.own=none/\ze P l K (s.put d p))
theorem zkX (i n:Nat) (ps:List PO):zc P (⟨some i,none,.bs n ps⟩::l) K s=(x5 s n ps/\zc P l K (s.put (some i) (.sl (xA s ps) (.r i n)))):=by
 show PK.e P (.bs n ps) (some i) s (zc P l K)=_
 simp only [PK.e,jg]
theorem zky (n:Nat) (ps:List PO):ze P (⟨d,none,.bs n ps⟩::l) K s=(x5 s n ps/\PV.own (.sl (xA s ps) .z)=none/\ze P l K (s.put d (.sl (xA s ps) .z))):=zju (P:=P) (s:=s) n ps (Kv:=fun p=>p.own=none/\ze P l K (s.put d p))
theorem ziy (x:PO) (n:Nat):zc P (⟨d,none,.ld x true n⟩::l) K s=(ldC s.b (s.ev x) true n/\zc P l K (s.put d (ldV s.b (s.ev x) true n).strip)):=zcb (P:=P) (s:=s) x true n (Kv:=fun p=>zc P l K (s.put d p))
def ldW (bs:List (List PV)) (p:PV):PV:=match p with
 | .cp cs o=>(Z0 cs o false 1).strip
 | .bx i o=>Z0 (bs[i]?.getD []) o false 1
 | _=>.und
theorem ziJ (bs:List (List PV)) (cs:List PV) (o:Nat):ldW bs (.cp cs o)=(Z0 cs o false 1).strip:=Eq.trans rfl rfl
theorem ziI (bs:List (List PV)) (i o:Nat):ldW bs (.bx i o)=Z0 (bs[i]?.getD []) o false 1:=Eq.trans rfl rfl
theorem zix (x:PO):zc P (⟨d,none,.ld x false 1⟩::l) K s=(ldF s.b (s.ev x)/\zc P l K (s.put d (ldW s.b (s.ev x)))):=by
 show PK.e P (.ld x false 1) d s (zc P l K)=_
 simp only [PK.e]
 split
 ·rename_i i o h
  rw [h]
  simp only [ldF,ldW,Qp,Z0]
  cases s.b[i]? with
  | none=>simp
  | some cs=>cases hc:cs[o]?<;>simp [hc]
 ·rename_i h
  rw [zcb]
  cases hx:s.ev x<;>first | rfl | exact absurd hx (h _ _) | (simp [ldC,ldF];done)
theorem zgn (i:Nat):zc P (⟨d,none,.mv (.t i)⟩::l) K s=zc P l K (s.put d (s.get i)):=Eq.trans rfl rfl
theorem zgl (p:PV):zc P (⟨d,none,.mv (.c p)⟩::l) K s=zc P l K (s.put d p.strip):=Eq.trans rfl rfl
theorem zgm (f:FuncId):zc P (⟨d,none,.mv (.f f)⟩::l) K s=zc P l K (s.put d (.fn (.func f) [] [])):=Eq.trans rfl rfl
theorem zf1 (i:Nat):ze P (⟨d,none,.mv (.t i)⟩::l) K s=(((s.get i).pre i).own=none/\ze P l K (s.put d ((s.get i).pre i))):=Eq.trans rfl rfl
theorem zfZ (p:PV):ze P (⟨d,none,.mv (.c p)⟩::l) K s=(p.strip.own=none/\ze P l K (s.put d p.strip)):=Eq.trans rfl rfl
theorem zf0 (f:FuncId):ze P (⟨d,none,.mv (.f f)⟩::l) K s=ze P l K (s.put d (.fn (.func f) [] [])):=by
 show (_=none/\_)=_
 simp only [PS.ev,PV.strip,PV.own,true_and]
def pkP (c:PV) (X Y:PS->Prop) (s:PS):Prop:=qW c/\if bV c=true then X s else Y s
theorem zla (c x y:PO):zc P (⟨d,none,.pk c x y⟩::l) K s=pkP (s.ev c) (fun s'=>zc P l K (s'.put d (s'.ev x).strip)) (fun s'=>zc P l K (s'.put d (s'.ev y).strip)) s:=by
 show qS _ _=_
 rw [xm]
 unfold pkP
 cases bV (s.ev c)<;>simp
theorem zkM (c x y:PO):ze P (⟨d,none,.pk c x y⟩::l) K s=pkP (s.ev c) (fun s'=>ze P l K (s'.put d (s'.ev x).strip)) (fun s'=>ze P l K (s'.put d (s'.ev y).strip)) s:=by
 show qS _ _=_
 rw [xm]
 unfold pkP
 cases bV (s.ev c)<;>simp [PV.strip_own]
theorem zji (X Y:PS->Prop):pkP (.v (.bool true)) X Y s=X s:=by simp [pkP,qW,bV]
theorem zjh (X Y:PS->Prop):pkP (.v (.bool false)) X Y s=Y s:=by simp [pkP,qW,bV]
theorem pkP.mk {c:Bool} {X Y:PS->Prop} (h1:c=true->X s) (h2:c=false->Y s):pkP (.v (.bool c)) X Y s:=by
 refine⟨trivial,?_⟩
 cases c
 ·exact h2 rfl
 ·exact h1 rfl
def eqC (m:Nat) (p q:PV):Prop:=match p,q with
 | .agg xs,.agg ys=>xs.length=m/\vT xs ys
 | _,_=>False
def eqB (p q:PV):Bool:=match p,q with
 | .agg xs,.agg ys=>xB xs ys
 | _,_=>false
theorem zhV (m:Nat) (xs ys:List PV):eqC m (.agg xs) (.agg ys)=(xs.length=m/\vT xs ys):=Eq.trans rfl rfl
theorem zhT (xs ys:List PV):eqB (.agg xs) (.agg ys)=xB xs ys:=Eq.trans rfl rfl
theorem zdq:vT [] []=True:=Eq.trans rfl rfl
theorem zbe (k k':IntKind) (a b:Int) (r r':List PV):vT (.v (.int k a)::r) (.v (.int k' b)::r')=(k=k'/\vT r r'):=by rw [vT]
theorem zdr:xB [] []=true:=Eq.trans rfl rfl
theorem zbf (k k':IntKind) (a b:Int) (r r':List PV):xB (.v (.int k a)::r) (.v (.int k' b)::r')=(decide (a=b) && xB r r'):=by rw [xB]
theorem zca (n:Bool) (x y:PO) (m:Nat) {Kv:PV->Prop}:PK.q P s (.eq2 n x y m) Kv=(eqC m (s.ev x) (s.ev y)/\Kv (.v (.bool (n != eqB (s.ev x) (s.ev y))))):=by
 simp only [PK.q]
 generalize s.ev x=p
 generalize s.ev y=q
 unfold KZ eqC eqB
 cases p<;>cases q<;>simp
def nlC:PV->Prop
 | .v .nilIface=>True
 | .ifc _ _=>True
 | _=>False
def nlB:PV->Bool
 | .v .nilIface=>true
 | _=>false
theorem ziR:nlC (.v .nilIface)=True:=Eq.trans rfl rfl
theorem ziQ (t:TypeId) (x:PV):nlC (.ifc t x)=True:=Eq.trans rfl rfl
theorem ziP:nlB (.v .nilIface)=true:=Eq.trans rfl rfl
theorem ziO (t:TypeId) (x:PV):nlB (.ifc t x)=false:=Eq.trans rfl rfl
theorem zcd (n:Bool) (x:PO) {Kv:PV->Prop}:PK.q P s (.nil n x) Kv=(nlC (s.ev x)/\Kv (.v (.bool (n != nlB (s.ev x))))):=by
 simp only [PK.q]
 cases s.ev x<;>simp [nlC,nlB]
 rename_i v
 cases v<;>simp [nlC,nlB]
theorem zfl (x:PO) {Kv:PV->Prop}:PK.q P s (.nc x) Kv=(Jw (s.ev x)/\Kv (s.ev x)):=by
 simp only [PK.q]
 cases s.ev x<;>simp [Jw]
theorem zfk (m:Bool) (x y:PO) {Kv:PV->Prop}:PK.q P s (.mm m x y) Kv=((qc (s.ev x)/\qc (s.ev y)/\iK (s.ev x)=iK (s.ev y))/\Kv (.v (.int (iK (s.ev x)) (if m then (if iV (s.ev y) > iV (s.ev x) then iV (s.ev y) else iV (s.ev x)) else (if iV (s.ev y)<iV (s.ev x) then iV (s.ev y) else iV (s.ev x)))))):=by
 simp only [PK.q,xq,and_assoc]
theorem zfa (x y:PO) (n sz:Nat) {Kv:PV->Prop}:PK.q P s (.aa x y n sz) Kv=((qc (s.ev y)/\0<=iV (s.ev y)/\iV (s.ev y)<n/\Jw (s.ev x))/\Kv (faV ((iV (s.ev y)).toNat * sz) (s.ev x))):=by
 simp only [PK.q,xq,and_assoc]
 cases s.ev x<;>simp [Jw,faV]
def agC:PV->Prop
 | .agg _=>True
 | _=>False
def YK:PV->List PV
 | .agg cs=>cs
 | _=>[]
theorem zhm (cs:List PV):agC (.agg cs)=True:=Eq.trans rfl rfl
theorem zhn (cs:List PV):YK (.agg cs)=cs:=Eq.trans rfl rfl
theorem zfh (x y:PO) (n:Nat) (ag:Bool) (sz:Nat) {Kv:PV->Prop}:PK.q P s (.ix x y n ag sz) Kv=((qc (s.ev y)/\0<=iV (s.ev y)/\iV (s.ev y)<n/\agC (s.ev x)/\Qp (YK (s.ev x)) ((iV (s.ev y)).toNat * sz) ag sz)/\Kv (Z0 (YK (s.ev x)) ((iV (s.ev y)).toNat * sz) ag sz).strip):=by
 simp only [PK.q,xq,and_assoc]
 cases s.ev x<;>simp [agC,YK,Yn,and_assoc]
theorem zff (x:PO) (o:Nat) (ag:Bool) (n:Nat) {Kv:PV->Prop}:PK.q P s (.fl x o ag n) Kv=((agC (s.ev x)/\Qp (YK (s.ev x)) o ag n)/\Kv (Z0 (YK (s.ev x)) o ag n).strip):=by
 simp only [PK.q]
 cases s.ev x<;>simp [agC,YK,Yn]
def mfC (ps:List PV):Bool:=ps.all fun p=>p.isD || p.isB
theorem zdS:mfC []=true:=Eq.trans rfl rfl
theorem zbJ (p:PV) (l:List PV):mfC (p::l)=((p.isD || p.isB) && mfC l):=Eq.trans rfl rfl
theorem zih (x:Value):PV.isB (.v x)=false:=Eq.trans rfl rfl
theorem zga (es:List (List PV)) (o:Ow):PV.isB (.sl es o)=false:=Eq.trans rfl rfl
theorem zdE (cs:List PV):PV.isB (.agg cs)=false:=Eq.trans rfl rfl
theorem zf7 (i o:Nat):PV.isB (.bx i o)=true:=Eq.trans rfl rfl
theorem zf8 (cs:List PV) (o:Nat):PV.isB (.cp cs o)=false:=Eq.trans rfl rfl
theorem zf9 (f:Fn) (x y:List PV):PV.isB (.fn f x y)=false:=Eq.trans rfl rfl
theorem zdF (t:TypeId) (x:PV):PV.isB (.ifc t x)=false:=Eq.trans rfl rfl
theorem zgd (i o:Nat):PV.isD (.bx i o)=false:=Eq.trans rfl rfl
theorem zgf (f:Fn) (x y:List PV):PV.isD (.fn f x y)=(x.all (fun p=>!p.isB) && y.all (fun p=>!p.isB)):=Eq.trans rfl rfl
theorem zcc (f:Fn) (fs cs:List PO) {Kv:PV->Prop}:PK.q P s (.mf f fs cs) Kv=((mfC (jX s fs) && mfC (jX s cs))=true/\Kv (.fn f (jX s fs) (jX s cs))):=by
 simp only [PK.q,mfC,jX,List.all_map]
 rfl
theorem zfj (t:TypeId) (x:PO) {Kv:PV->Prop}:PK.q P s (.mi t x) Kv=((s.ev x).isD=true/\Kv (.ifc t (s.ev x).sh)):=by
 simp only [PK.q]
 cases (s.ev x).isD<;>simp
def clP (P:Program) (p:PV) (xs:List PV) (K:PS->Prop) (d:Option Nat) (s:PS):Prop:=match p with
 | .fn (.func f) fs cs=>callQ P f (fs++xs++cs) K d s
 | _=>False
theorem zhK (f:FuncId) (fs cs xs:List PV):clP P (.fn (.func f) fs cs) xs K d s=callQ P f (fs++xs++cs) K d s:=Eq.trans rfl rfl
theorem zkZ (y:PO) (xs:List PO):zc P (⟨d,none,.cl y xs⟩::l) K s=clP P (s.ev y) (jX s xs) (zc P l K) d s:=by
 show PK.q P s (.cl y xs) (fun p=>zc P l K (s.put d p))=_
 simp only [PK.q]
 cases s.ev y<;>rfl
theorem zkA (y:PO) (xs:List PO):ze P (⟨d,none,.cl y xs⟩::l) K s=clP P (s.ev y) (jX s xs) (ze P l K) d s:=by
 show PK.q P s (.cl y xs) (fun p=>p.own=none/\ze P l K (s.put d p))=_
 simp only [PK.q,PV.strip_own,true_and]
 cases s.ev y<;>rfl
theorem ziv (n:Bool) (x y:PO) (m:Nat):zc P (⟨d,none,.eq2 n x y m⟩::l) K s=(eqC m (s.ev x) (s.ev y)/\zc P l K (s.put d (.v (.bool (n != eqB (s.ev x) (s.ev y)))))):=zca (P:=P) (s:=s) n x y m (Kv:=fun p=>zc P l K (s.put d p))
theorem zic (n:Bool) (x y:PO) (m:Nat):ze P (⟨d,none,.eq2 n x y m⟩::l) K s=(eqC m (s.ev x) (s.ev y)/\PV.own (.v (.bool (n != eqB (s.ev x) (s.ev y))))=none/\ze P l K (s.put d (.v (.bool (n != eqB (s.ev x) (s.ev y)))))):=zca (P:=P) (s:=s) n x y m (Kv:=fun p=>p.own=none/\ze P l K (s.put d p))
theorem ziz (n:Bool) (x:PO):zc P (⟨d,none,.nil n x⟩::l) K s=(nlC (s.ev x)/\zc P l K (s.put d (.v (.bool (n != nlB (s.ev x)))))):=zcd (P:=P) (s:=s) n x (Kv:=fun p=>zc P l K (s.put d p))
theorem zie (n:Bool) (x:PO):ze P (⟨d,none,.nil n x⟩::l) K s=(nlC (s.ev x)/\PV.own (.v (.bool (n != nlB (s.ev x))))=none/\ze P l K (s.put d (.v (.bool (n != nlB (s.ev x)))))):=zcd (P:=P) (s:=s) n x (Kv:=fun p=>p.own=none/\ze P l K (s.put d p))
theorem zk9 (x:PO):zc P (⟨d,none,.nc x⟩::l) K s=(Jw (s.ev x)/\zc P l K (s.put d (s.ev x))):=zfl (P:=P) (s:=s) x (Kv:=fun p=>zc P l K (s.put d p))
theorem zkL (x:PO):ze P (⟨d,none,.nc x⟩::l) K s=(Jw (s.ev x)/\PV.own (s.ev x)=none/\ze P l K (s.put d (s.ev x))):=zfl (P:=P) (s:=s) x (Kv:=fun p=>p.own=none/\ze P l K (s.put d p))
theorem zk8 (m:Bool) (x y:PO):zc P (⟨d,none,.mm m x y⟩::l) K s=((qc (s.ev x)/\qc (s.ev y)/\iK (s.ev x)=iK (s.ev y))/\zc P l K (s.put d (.v (.int (iK (s.ev x)) (if m then (if iV (s.ev y) > iV (s.ev x) then iV (s.ev y) else iV (s.ev x)) else (if iV (s.ev y)<iV (s.ev x) then iV (s.ev y) else iV (s.ev x))))))):=zfk (P:=P) (s:=s) m x y (Kv:=fun p=>zc P l K (s.put d p))
theorem zkK (m:Bool) (x y:PO):ze P (⟨d,none,.mm m x y⟩::l) K s=((qc (s.ev x)/\qc (s.ev y)/\iK (s.ev x)=iK (s.ev y))/\PV.own (.v (.int (iK (s.ev x)) (if m then (if iV (s.ev y) > iV (s.ev x) then iV (s.ev y) else iV (s.ev x)) else (if iV (s.ev y)<iV (s.ev x) then iV (s.ev y) else iV (s.ev x)))))=none/\ze P l K (s.put d (.v (.int (iK (s.ev x)) (if m then (if iV (s.ev y) > iV (s.ev x) then iV (s.ev y) else iV (s.ev x)) else (if iV (s.ev y)<iV (s.ev x) then iV (s.ev y) else iV (s.ev x))))))):=zfk (P:=P) (s:=s) m x y (Kv:=fun p=>p.own=none/\ze P l K (s.put d p))
theorem zkS (x y:PO) (n sz:Nat):zc P (⟨d,none,.aa x y n sz⟩::l) K s=((qc (s.ev y)/\0<=iV (s.ev y)/\iV (s.ev y)<n/\Jw (s.ev x))/\zc P l K (s.put d (faV ((iV (s.ev y)).toNat * sz) (s.ev x)))):=zfa (P:=P) (s:=s) x y n sz (Kv:=fun p=>zc P l K (s.put d p))
theorem zkv (x y:PO) (n sz:Nat):ze P (⟨d,none,.aa x y n sz⟩::l) K s=((qc (s.ev y)/\0<=iV (s.ev y)/\iV (s.ev y)<n/\Jw (s.ev x))/\PV.own (faV ((iV (s.ev y)).toNat * sz) (s.ev x))=none/\ze P l K (s.put d (faV ((iV (s.ev y)).toNat * sz) (s.ev x)))):=zfa (P:=P) (s:=s) x y n sz (Kv:=fun p=>p.own=none/\ze P l K (s.put d p))
theorem zk4 (x y:PO) (n:Nat) (ag:Bool) (sz:Nat):zc P (⟨d,none,.ix x y n ag sz⟩::l) K s=((qc (s.ev y)/\0<=iV (s.ev y)/\iV (s.ev y)<n/\agC (s.ev x)/\Qp (YK (s.ev x)) ((iV (s.ev y)).toNat * sz) ag sz)/\zc P l K (s.put d ((Z0 (YK (s.ev x)) ((iV (s.ev y)).toNat * sz) ag sz).strip))):=zfh (P:=P) (s:=s) x y n ag sz (Kv:=fun p=>zc P l K (s.put d p))
theorem zkF (x y:PO) (n:Nat) (ag:Bool) (sz:Nat):ze P (⟨d,none,.ix x y n ag sz⟩::l) K s=((qc (s.ev y)/\0<=iV (s.ev y)/\iV (s.ev y)<n/\agC (s.ev x)/\Qp (YK (s.ev x)) ((iV (s.ev y)).toNat * sz) ag sz)/\PV.own ((Z0 (YK (s.ev x)) ((iV (s.ev y)).toNat * sz) ag sz).strip)=none/\ze P l K (s.put d ((Z0 (YK (s.ev x)) ((iV (s.ev y)).toNat * sz) ag sz).strip))):=zfh (P:=P) (s:=s) x y n ag sz (Kv:=fun p=>p.own=none/\ze P l K (s.put d p))
theorem zk2 (x:PO) (o:Nat) (ag:Bool) (n:Nat):zc P (⟨d,none,.fl x o ag n⟩::l) K s=((agC (s.ev x)/\Qp (YK (s.ev x)) o ag n)/\zc P l K (s.put d ((Z0 (YK (s.ev x)) o ag n).strip))):=zff (P:=P) (s:=s) x o ag n (Kv:=fun p=>zc P l K (s.put d p))
theorem zkD (x:PO) (o:Nat) (ag:Bool) (n:Nat):ze P (⟨d,none,.fl x o ag n⟩::l) K s=((agC (s.ev x)/\Qp (YK (s.ev x)) o ag n)/\PV.own ((Z0 (YK (s.ev x)) o ag n).strip)=none/\ze P l K (s.put d ((Z0 (YK (s.ev x)) o ag n).strip))):=zff (P:=P) (s:=s) x o ag n (Kv:=fun p=>p.own=none/\ze P l K (s.put d p))
def mfB (s:PS) (l:List PO):Bool:=l.any fun x=>(s.ev x).isB
theorem zdR:mfB s []=false:=rfl
theorem zbI (x:PO) (l:List PO):mfB s (x::l)=((s.ev x).isB || mfB s l):=rfl
theorem zh7:PS.fz ⟨t,b⟩=⟨t.map fun y=>(y.1,y.2.fz b),[]⟩:=rfl
theorem zks (x:Value):PV.fz b (.v x)=.v x:=rfl
theorem zfQ (cs:List PV):PV.fz b (.agg cs)=.agg cs:=rfl
theorem zfT (cs:List PV):PV.fz b (.tup cs)=.tup cs:=rfl
theorem zh8 (es:List (List PV)) (o:Ow):PV.fz b (.sl es o)=.sl es o:=rfl
theorem zh4 (i o:Nat):PV.fz b (.bx i o)=.cp ((b[i]?.getD []).map PV.sh) o:=rfl
theorem zh5 (cs:List PV) (o:Nat):PV.fz b (.cp cs o)=.cp cs o:=rfl
theorem zfR (ty:TypeId) (x:PV):PV.fz b (.ifc ty x)=.ifc ty x:=rfl
theorem zfU:PV.fz b .und=.und:=rfl
theorem zh6 (f:Fn) (fs cs:List PV):PV.fz b (.fn f fs cs)=.fn f (fs.map (PV.fz1 b)) (cs.map (PV.fz1 b)):=rfl
theorem zfO (i o:Nat):PV.fz1 b (.bx i o)=.cp ((b[i]?.getD []).map PV.sh) o:=rfl
theorem zh3 (x:Value):PV.fz1 b (.v x)=.v x:=rfl
theorem zfP (cs:List PV) (o:Nat):PV.fz1 b (.cp cs o)=.cp cs o:=rfl
theorem zk6 (f:Fn) (fs cs:List PO):zc P (⟨d,none,.mf f fs cs⟩::l) K s=if (mfB s fs || mfB s cs)=true then (s.b.all zZ=true/\(mfC (jX s.fz fs) && mfC (jX s.fz cs))=true/\zc P l K (s.fz.put d (.fn f (jX s.fz fs) (jX s.fz cs)))) else ((mfC (jX s fs) && mfC (jX s cs))=true/\zc P l K (s.put d (.fn f (jX s fs) (jX s cs)))):=by
 show PK.e P (.mf f fs cs) d s (zc P l K)=_
 simp only [PK.e,mfB]
 congr 1
 ·rw [zcc (P:=P) (s:=s.fz) f fs cs (Kv:=fun p=>zc P l K (s.fz.put d p))]
 ·exact zcc (P:=P) (s:=s) f fs cs (Kv:=fun p=>zc P l K (s.put d p))
theorem zkI (f:Fn) (fs cs:List PO):ze P (⟨d,none,.mf f fs cs⟩::l) K s=((mfC (jX s fs) && mfC (jX s cs))=true/\PV.own (.fn f (jX s fs) (jX s cs))=none/\ze P l K (s.put d (.fn f (jX s fs) (jX s cs)))):=zcc (P:=P) (s:=s) f fs cs (Kv:=fun p=>p.own=none/\ze P l K (s.put d p))
theorem zk7 (t:TypeId) (x:PO):zc P (⟨d,none,.mi t x⟩::l) K s=((s.ev x).isD=true/\zc P l K (s.put d (.ifc t (s.ev x).sh))):=zfj (P:=P) (s:=s) t x (Kv:=fun p=>zc P l K (s.put d p))
theorem zkJ (t:TypeId) (x:PO):ze P (⟨d,none,.mi t x⟩::l) K s=((s.ev x).isD=true/\PV.own (.ifc t (s.ev x).sh)=none/\ze P l K (s.put d (.ifc t (s.ev x).sh))):=zfj (P:=P) (s:=s) t x (Kv:=fun p=>p.own=none/\ze P l K (s.put d p))
theorem zlb (x:PO) (lo hi:Option PO) (n:Nat):zc P (⟨d,none,.sc x lo hi n⟩::l) K s=(ym (s.ev x)/\bdC s hi/\bdC s lo/\Ji s 0 lo<=Ji s (eV (s.ev x)).length hi/\Ji s (eV (s.ev x)).length hi<=(eV (s.ev x)).length/\(∀ e ∈ eV (s.ev x),e.length=n) /\
 zc P l K (s.put d (.sl (((eV (s.ev x)).take (Ji s (eV (s.ev x)).length hi)).drop (Ji s 0 lo)) .sh))):=by
 show PK.q P s (.sc x lo hi n) (fun p=>zc P l K (s.put d p.strip))=_
 have:∀ es lo p,(PV.sl es (Yx lo p)).strip=.sl es .sh:=fun es lo p=>by unfold Yx;split<;>rfl
 simp only [PK.q,vM,JZ,this]
theorem zkN (x:PO) (lo hi:Option PO) (n:Nat):ze P (⟨d,none,.sc x lo hi n⟩::l) K s=(ym (s.ev x)/\bdC s hi/\bdC s lo/\Ji s 0 lo<=Ji s (eV (s.ev x)).length hi/\Ji s (eV (s.ev x)).length hi<=(eV (s.ev x)).length/\(∀ e ∈ eV (s.ev x),e.length=n) /\
 ze P l K (s.put d (.sl (((eV (s.ev x)).take (Ji s (eV (s.ev x)).length hi)).drop (Ji s 0 lo)) (Yx lo (s.ev x))))):=by
 show PK.q P s (.sc x lo hi n) (fun p=>p.own=none/\ze P l K (s.put d p))=_
 have:∀ es lo p,(PV.sl es (Yx lo p)).own=none:=fun es lo p=>by unfold Yx;split<;>rfl
 simp only [PK.q,vM,JZ,this,true_and]
theorem zhC:bdC s none=True:=Eq.trans rfl rfl
theorem zhD (y:PO):bdC s (some y)=(qc (s.ev y)/\0<=iV (s.ev y)):=Eq.trans rfl rfl
theorem zhE (n:Nat):Ji s n none=n:=Eq.trans rfl rfl
theorem zhF (n:Nat) (y:PO):Ji s n (some y)=(iV (s.ev y)).toNat:=Eq.trans rfl rfl
def zcF (p:PV) (i:Nat):Prop:=match p with
 | .tup cs=>cs[i]?.isSome=true
 | _=>False
def tpV (p:PV) (i:Nat):PV:=match p with
 | .tup cs=>(cs[i]?.getD .und).strip
 | _=>.und
theorem zfd (x:PO) (i:Nat) {Kv:PV->Prop}:PK.q P s (.ex x i) Kv=(zcF (s.ev x) i/\Kv (tpV (s.ev x) i)):=by
 simp only [PK.q]
 cases s.ev x<;>simp only [zcF,tpV,false_and]
 rename_i cs
 cases cs[i]?<;>simp
theorem ziw (x:PO) (i:Nat):zc P (⟨d,none,.ex x i⟩::l) K s=(zcF (s.ev x) i/\zc P l K (s.put d (tpV (s.ev x) i))):=zfd (P:=P) (s:=s) x i (Kv:=fun p=>zc P l K (s.put d p))
theorem zid (x:PO) (i:Nat):ze P (⟨d,none,.ex x i⟩::l) K s=(zcF (s.ev x) i/\(tpV (s.ev x) i).own=none/\ze P l K (s.put d (tpV (s.ev x) i))):=zfd (P:=P) (s:=s) x i (Kv:=fun p=>p.own=none/\ze P l K (s.put d p))
theorem zg9 (cs:List PV) (i:Nat):zcF (.tup cs) i=(cs[i]?.isSome=true):=Eq.trans rfl rfl
theorem zj2 (cs:List PV) (i:Nat):tpV (.tup cs) i=(cs[i]?.getD .und).strip:=Eq.trans rfl rfl
theorem zkT (zs:List PV):zc P (⟨d,none,.al zs⟩::l) K s=zc P l K (PS.put ⟨s.t,s.b++[zs]⟩ d (.bx s.b.length 0)):=Eq.trans rfl rfl
theorem zkW (x:PO):zc P (⟨d,none,.bo x⟩::l) K s=(qv (s.ev x)/\zc P l K (PS.put ⟨s.t,s.b++[(qk (s.ev x)).map PV.sh]⟩ d (.bx s.b.length 0))):=xI
def stC (bs:List (List PV)) (p q:PV) (n:Nat):Prop:=match p with
 | .bx i o=>bs[i]?.isSome=true/\qv q/\(qk q).length=n/\o+n<=(bs[i]?.getD []).length
 | _=>False
def stB (bs:List (List PV)) (y:PO) (p q:PV):List (List PV):=match p with
 | .bx i o=>bs.set i (YI (bs[i]?.getD []) (yu y q (qk q)) o)
 | _=>bs
theorem zjY (bs:List (List PV)) (i o:Nat) (q:PV) (n:Nat):stC bs (.bx i o) q n=(bs[i]?.isSome=true/\qv q/\(qk q).length=n/\o+n<=(bs[i]?.getD []).length):=Eq.trans rfl rfl
theorem zjX (bs:List (List PV)) (y:PO) (i o:Nat) (q:PV):stB bs y (.bx i o) q=bs.set i (YI (bs[i]?.getD []) (yu y q (qk q)) o):=Eq.trans rfl rfl
theorem zlc (x y:PO) (n:Nat):zc P (⟨d,none,.st x y n⟩::l) K s=(stC s.b (s.ev x) (s.ev y) n/\zc P l K (PS.put ⟨s.t,stB s.b y (s.ev x) (s.ev y)⟩ d (.v undef))):=by
 show PK.e P (.st x y n) d s (zc P l K)=_
 simp only [PK.e]
 cases s.ev x<;>simp only [stC,stB,false_and]
 rename_i i o
 cases s.b[i]?<;>simp [xI,and_assoc]
theorem zkY (f:FuncId) (xs:List PO):zc P (⟨d,none,.ca f xs⟩::l) K s=match xs with
 | .t i::xs'=>caD P f (s.get i) (jX s xs') (zc P l K) d s
 | xs=>callP P f (jX s xs) (zc P l K) d s:=by
 show PK.e P (.ca f xs) d s (zc P l K)=_
 simp only [PK.e]
 split
 ·rename_i i xs'
  have e:s.ev (.t i)=s.get i:=rfl
  simp only [List.map_cons,e,caD]
  generalize s.get i=p
  cases p with
  | sl es o=>cases o<;>rfl
  | _=>rfl
 ·rename_i h
  cases xs with
  | nil=>rfl
  | cons x xs=>cases x<;>first | rfl | exact absurd rfl (h _ _)
theorem zhH (f:FuncId) (es:List (List PV)) (n sz:Nat) (xs:List PV):caD P f (.sl es (.r n sz)) xs K d s=callO P f es n sz xs K d s:=Eq.trans rfl rfl
theorem zhI (f:FuncId) (x:Value) (xs:List PV):caD P f (.v x) xs K d s=callP P f (.v x::xs) K d s:=Eq.trans rfl rfl
theorem zc0 (f:FuncId) (cs:List PV) (xs:List PV):caD P f (.agg cs) xs K d s=callP P f (.agg cs::xs) K d s:=Eq.trans rfl rfl
theorem zfy (f:FuncId) (es:List (List PV)) (xs:List PV):caD P f (.sl es .sh) xs K d s=callP P f (.sl es .sh::xs) K d s:=Eq.trans rfl rfl
theorem zhJ (f:FuncId) (es:List (List PV)) (xs:List PV):caD P f (.sl es .z) xs K d s=callP P f (.sl es .sh::xs) K d s:=Eq.trans rfl rfl
theorem zc1 (f:FuncId) (t:TypeId) (x:PV) (xs:List PV):caD P f (.ifc t x) xs K d s=callP P f (.ifc t x::xs) K d s:=Eq.trans rfl rfl
theorem zfx (f:FuncId) (g:Fn) (x y:List PV) (xs:List PV):caD P f (.fn g x y) xs K d s=callP P f (.fn g x y::xs) K d s:=Eq.trans rfl rfl
theorem zkz (f:FuncId) (xs:List PO):ze P (⟨d,none,.ca f xs⟩::l) K s=callQ P f (jX s xs) (ze P l K) d s:=by
 show (∃ r,_/\_/\(PV.own _=none/\_))=_
 simp only [PV.strip_own,true_and]
 rfl
def apT (P:Program) (p q:PV) (x y:PO) (n m:Nat) (K:PS->Prop) (d:Option Nat) (s:PS):Prop:=match p with
 | .sl es (.r k sz')=>sz'=n/\isT x=true/\ym q/\(∀ e ∈ eV q,e.length=n)/\(es.length+(eV q).length) * m<=140737488355328/\K ((s.down k).put d (.sl (es++eV q) (.r k n)))
 | .sl es .z=>(match d with
   | some d=>ym q/\(∀ e ∈ es,e.length=n)/\(∀ e ∈ eV q,e.length=n)/\(es.length+(eV q).length) * m<=140737488355328/\K (s.put (some d) (.sl (es++eV q) (apO es (eV q) d n)))
   | none=>PK.q P s (.ap x y n m) fun p=>K (s.put d p.strip))
 | _=>False
theorem zkU (x y:PO) (n m:Nat):zc P (⟨d,none,.ap x y n m⟩::l) K s=apT P (s.ev x) (s.ev y) x y n m (zc P l K) d s:=by
 show PK.e P (.ap x y n m) d s (zc P l K)=_
 simp only [PK.e,apT,vM]
 generalize s.ev x=p
 cases p with
 | sl es o=>cases o with
   | z=>cases d<;>rfl
   | r k sz=>rfl
   | _=>rfl
 | _=>rfl
theorem zht (es:List (List PV)) (k sz':Nat) (q:PV) (x y:PO) (n m:Nat):apT P (.sl es (.r k sz')) q x y n m K d s=(sz'=n/\isT x=true/\ym q/\(∀ e ∈ eV q,e.length=n)/\(es.length+(eV q).length) * m<=140737488355328/\K ((s.down k).put d (.sl (es++eV q) (.r k n)))):=Eq.trans rfl rfl
theorem zhu (es:List (List PV)) (q:PV) (x y:PO) (d n m:Nat):apT P (.sl es .z) q x y n m K (some d) s=(ym q/\(∀ e ∈ es,e.length=n)/\(∀ e ∈ eV q,e.length=n)/\(es.length+(eV q).length) * m<=140737488355328/\K (s.put (some d) (.sl (es++eV q) (apO es (eV q) d n)))):=Eq.trans rfl rfl
theorem zhr (es':List (List PV)) (d n:Nat):apO [] es' d n=.r d n:=by cases es'<;>rfl
theorem zhq (es:List (List PV)) (e:List PV) (es':List (List PV)) (d n:Nat):apO es (e::es') d n=.r d n:=by cases es<;>rfl
theorem zhs (e:List PV) (es:List (List PV)) (d n:Nat):apO (e::es) [] d n=.sh:=rfl
def apH (p q:PV) (n m:Nat):Prop:=match p with
 | .sl es .z=>ym q/\(∀ e ∈ es,e.length=n)/\(∀ e ∈ eV q,e.length=n)/\(es.length+(eV q).length) * m<=140737488355328
 | _=>False
theorem zhp (es:List (List PV)) (q:PV) (n m:Nat):apH (.sl es .z) q n m=(ym q/\(∀ e ∈ es,e.length=n)/\(∀ e ∈ eV q,e.length=n)/\(es.length+(eV q).length) * m<=140737488355328):=Eq.trans rfl rfl
theorem zkw (x y:PO) (n m:Nat):ze P (⟨d,none,.ap x y n m⟩::l) K s=(apH (s.ev x) (s.ev y) n m/\ze P l K (s.put d (.sl (eV (s.ev x)++eV (s.ev y)) (.n n)))):=by
 show PK.q P s (.ap x y n m) (fun p=>p.own=none/\ze P l K (s.put d p))=_
 simp only [PK.q,apH,vM]
 cases h:s.ev x<;>try simp
 rename_i es o
 cases o<;>simp [eV,PV.own,and_assoc]
theorem zez (x:Value):PV.strip (.v x)=.v x:=Eq.trans rfl rfl
theorem zac (cs:List PV):PV.strip (.agg cs)=.agg cs:=Eq.trans rfl rfl
theorem zae (cs:List PV):PV.strip (.tup cs)=.tup cs:=Eq.trans rfl rfl
theorem zcA (es:List (List PV)):PV.strip (.sl es .sh)=.sl es .sh:=Eq.trans rfl rfl
theorem zeA (es:List (List PV)):PV.strip (.sl es .z)=.sl es .z:=Eq.trans rfl rfl
theorem zey (es:List (List PV)) (n m:Nat):PV.strip (.sl es (.r n m))=.sl es .sh:=Eq.trans rfl rfl
theorem zex (es:List (List PV)) (m:Nat):PV.strip (.sl es (.p m))=.sl es .sh:=Eq.trans rfl rfl
theorem zew (es:List (List PV)) (m:Nat):PV.strip (.sl es (.n m))=.sl es .sh:=Eq.trans rfl rfl
theorem zcx (i o:Nat):PV.strip (.bx i o)=.bx i o:=Eq.trans rfl rfl
theorem zcy (cs:List PV) (o:Nat):PV.strip (.cp cs o)=.cp cs o:=Eq.trans rfl rfl
theorem zcz (f:Fn) (x y:List PV):PV.strip (.fn f x y)=.fn f x y:=Eq.trans rfl rfl
theorem zad (t:TypeId) (x:PV):PV.strip (.ifc t x)=.ifc t x:=Eq.trans rfl rfl
theorem zlA (x:Value):PV.sh (.v x)=.v x:=Eq.trans rfl rfl
theorem zgZ (cs:List PV):PV.sh (.agg cs)=.agg cs:=Eq.trans rfl rfl
theorem zg1 (cs:List PV):PV.sh (.tup cs)=.tup cs:=Eq.trans rfl rfl
theorem zjV (es:List (List PV)) (o:Ow):PV.sh (.sl es o)=.sl es .sh:=Eq.trans rfl rfl
theorem zjS (i o:Nat):PV.sh (.bx i o)=.bx i o:=Eq.trans rfl rfl
theorem zjT (cs:List PV) (o:Nat):PV.sh (.cp cs o)=.cp cs o:=Eq.trans rfl rfl
theorem zjU (f:Fn) (x y:List PV):PV.sh (.fn f x y)=.fn f x y:=Eq.trans rfl rfl
theorem zg0 (t:TypeId) (x:PV):PV.sh (.ifc t x)=.ifc t x:=Eq.trans rfl rfl
theorem zi5 (x:Value):PV.own (.v x)=none:=Eq.trans rfl rfl
theorem zd2 (cs:List PV):PV.own (.agg cs)=none:=Eq.trans rfl rfl
theorem zd4 (cs:List PV):PV.own (.tup cs)=none:=Eq.trans rfl rfl
theorem zgE (es:List (List PV)):PV.own (.sl es .sh)=none:=Eq.trans rfl rfl
theorem zi6 (es:List (List PV)):PV.own (.sl es .z)=none:=Eq.trans rfl rfl
theorem zi3 (es:List (List PV)) (m:Nat):PV.own (.sl es (.p m))=none:=Eq.trans rfl rfl
theorem zi2 (es:List (List PV)) (m:Nat):PV.own (.sl es (.n m))=none:=Eq.trans rfl rfl
theorem zgB (i o:Nat):PV.own (.bx i o)=none:=Eq.trans rfl rfl
theorem zgC (cs:List PV) (o:Nat):PV.own (.cp cs o)=none:=Eq.trans rfl rfl
theorem zgD (f:Fn) (x y:List PV):PV.own (.fn f x y)=none:=Eq.trans rfl rfl
theorem zd3 (t:TypeId) (x:PV):PV.own (.ifc t x)=none:=Eq.trans rfl rfl
theorem zfJ (n:Nat) (x:Value):PV.down n (.v x)=.v x:=Eq.trans rfl rfl
theorem za5 (n:Nat) (cs:List PV):PV.down n (.agg cs)=.agg cs:=Eq.trans rfl rfl
theorem za7 (n:Nat) (cs:List PV):PV.down n (.tup cs)=.tup cs:=Eq.trans rfl rfl
theorem zdn (n:Nat) (es:List (List PV)):PV.down n (.sl es .sh)=.sl es .sh:=Eq.trans rfl rfl
theorem zfK (n:Nat) (es:List (List PV)):PV.down n (.sl es .z)=.sl es .z:=Eq.trans rfl rfl
theorem zfH (n m:Nat) (es:List (List PV)):PV.down n (.sl es (.p m))=.sl es (.p m):=Eq.trans rfl rfl
theorem zfG (n m:Nat) (es:List (List PV)):PV.down n (.sl es (.n m))=.sl es (.n m):=Eq.trans rfl rfl
theorem zfI (n m k:Nat) (es:List (List PV)):PV.down n (.sl es (.r m k))=if m=n then .sl es .sh else .sl es (.r m k):=Eq.trans rfl rfl
theorem zdj (n i o:Nat):PV.down n (.bx i o)=.bx i o:=Eq.trans rfl rfl
theorem zdk (n:Nat) (cs:List PV) (o:Nat):PV.down n (.cp cs o)=.cp cs o:=Eq.trans rfl rfl
theorem zdl (n:Nat) (f:Fn) (x y:List PV):PV.down n (.fn f x y)=.fn f x y:=Eq.trans rfl rfl
theorem za6 (n:Nat) (t:TypeId) (x:PV):PV.down n (.ifc t x)=.ifc t x:=Eq.trans rfl rfl
theorem za8 (n:Nat):PV.down n .und=.und:=Eq.trans rfl rfl
theorem zaS:PS.clean ⟨t,b⟩=⟨t.map fun y=>(y.1,y.2.clean),b⟩:=Eq.trans rfl rfl
theorem zda (x:Value):PV.clean (.v x)=.v x:=Eq.trans rfl rfl
theorem zjm (j:Nat) (x:Value):PV.pre j (.v x)=.v x:=Eq.trans rfl rfl
theorem Kl (cs:List PV):PV.clean (.agg cs)=.agg cs:=Eq.trans rfl rfl
theorem zed (j:Nat) (cs:List PV):PV.pre j (.agg cs)=.agg cs:=Eq.trans rfl rfl
theorem Ko (cs:List PV):PV.clean (.tup cs)=.tup cs:=Eq.trans rfl rfl
theorem zeg (j:Nat) (cs:List PV):PV.pre j (.tup cs)=.tup cs:=Eq.trans rfl rfl
theorem zaT (es:List (List PV)):PV.clean (.sl es .sh)=.sl es .sh:=Eq.trans rfl rfl
theorem zgO (j:Nat) (es:List (List PV)):PV.pre j (.sl es .sh)=.sl es .sh:=Eq.trans rfl rfl
theorem zdb (es:List (List PV)):PV.clean (.sl es .z)=.sl es .z:=Eq.trans rfl rfl
theorem zjn (j:Nat) (es:List (List PV)):PV.pre j (.sl es .z)=.sl es .z:=Eq.trans rfl rfl
theorem zaP (i o:Nat):PV.clean (.bx i o)=.bx i o:=Eq.trans rfl rfl
theorem zgL (j:Nat) (i o:Nat):PV.pre j (.bx i o)=.bx i o:=Eq.trans rfl rfl
theorem zaQ (cs:List PV) (o:Nat):PV.clean (.cp cs o)=.cp cs o:=Eq.trans rfl rfl
theorem zgM (j:Nat) (cs:List PV) (o:Nat):PV.pre j (.cp cs o)=.cp cs o:=Eq.trans rfl rfl
theorem zaR (f:Fn) (x y:List PV):PV.clean (.fn f x y)=.fn f x y:=Eq.trans rfl rfl
theorem zgN (j:Nat) (f:Fn) (x y:List PV):PV.pre j (.fn f x y)=.fn f x y:=Eq.trans rfl rfl
theorem Km (t:TypeId) (x:PV):PV.clean (.ifc t x)=.ifc t x:=Eq.trans rfl rfl
theorem zee (j:Nat) (t:TypeId) (x:PV):PV.pre j (.ifc t x)=.ifc t x:=Eq.trans rfl rfl
theorem Kp  : PV.clean (.und)=.und:=Eq.trans rfl rfl
theorem zeh (j:Nat)  : PV.pre j (.und)=.und:=Eq.trans rfl rfl
theorem zc9 (es:List (List PV)) (n m:Nat):PV.clean (.sl es (.r n m))=.sl es (.r n m):=Eq.trans rfl rfl
theorem zc7 (es:List (List PV)) (m:Nat):PV.clean (.sl es (.n m))=.sl es .sh:=Eq.trans rfl rfl
theorem zc8 (es:List (List PV)) (m:Nat):PV.clean (.sl es (.p m))=.sl es .sh:=Eq.trans rfl rfl
theorem zjl (j:Nat) (es:List (List PV)) (n m:Nat):PV.pre j (.sl es (.r n m))=.sl es (.p j):=Eq.trans rfl rfl
theorem zjj (j:Nat) (es:List (List PV)) (m:Nat):PV.pre j (.sl es (.n m))=.sl es .sh:=Eq.trans rfl rfl
theorem zjk (j:Nat) (es:List (List PV)) (m:Nat):PV.pre j (.sl es (.p m))=.sl es .sh:=Eq.trans rfl rfl
theorem zcu (es:List (List PV)) (i:Nat):Yx none (.sl es (.p i))=.p i:=Eq.trans rfl rfl
theorem zcv (y:PO) (p:PV):Yx (some y) p=.sh:=Eq.trans rfl rfl
theorem zgY (es:List (List PV)):Yx none (.sl es .sh)=.sh:=Eq.trans rfl rfl
theorem zjR (es:List (List PV)):Yx none (.sl es .z)=.sh:=Eq.trans rfl rfl
theorem zjQ (es:List (List PV)) (n m:Nat):Yx none (.sl es (.r n m))=.sh:=Eq.trans rfl rfl
theorem zjP (es:List (List PV)) (m:Nat):Yx none (.sl es (.n m))=.sh:=Eq.trans rfl rfl
theorem zii (x:Value):PV.isD (.v x)=true:=Eq.trans rfl rfl
theorem zdG (cs:List PV):PV.isD (.agg cs)=true:=Eq.trans rfl rfl
theorem zdI (cs:List PV):PV.isD (.tup cs)=true:=Eq.trans rfl rfl
theorem zgg (es:List (List PV)) (o:Ow):PV.isD (.sl es o)=true:=Eq.trans rfl rfl
theorem zge (cs:List PV) (o:Nat):PV.isD (.cp cs o)=true:=Eq.trans rfl rfl
theorem zdH (t:TypeId) (x:PV):PV.isD (.ifc t x)=true:=Eq.trans rfl rfl
theorem zav:zZ []=true:=Eq.trans rfl rfl
theorem Kc (p:PV) (l:List PV):zZ (p::l)=(p.isD && zZ l):=Eq.trans rfl rfl
end
section
variable {nb:Nat}
theorem zeF (p:PV):SubP nb p .und ↔ True:=⟨fun _=>trivial,fun _=>.und p⟩
theorem zj0 (x y:Value):SubP nb (.v x) (.v y) ↔ x=y:=⟨fun h=>by cases h<;>rfl,fun h=>by subst h;exact .eq _ rfl⟩
theorem zeB (x y:List PV):SubP nb (.agg x) (.agg y) ↔ x=y:=⟨fun h=>by cases h<;>rfl,fun h=>by subst h;exact .eq _ rfl⟩
theorem zeE (x y:List PV):SubP nb (.tup x) (.tup y) ↔ x=y:=⟨fun h=>by cases h<;>rfl,fun h=>by subst h;exact .eq _ rfl⟩
theorem zeD (t t':TypeId) (x y:PV):SubP nb (.ifc t x) (.ifc t' y) ↔ t=t'/\x=y:=⟨fun h=>by cases h<;>exact⟨rfl,rfl⟩,fun⟨h,h'⟩=>by subst h;subst h';exact .eq _ rfl⟩
theorem zg4 (x y:List PV) (i j:Nat):SubP nb (.cp x i) (.cp y j) ↔ x=y/\i=j:=⟨fun h=>by cases h<;>exact⟨rfl,rfl⟩,fun⟨h,h'⟩=>by subst h;subst h';exact .eq _ rfl⟩
theorem zg3 (i j o o':Nat):SubP nb (.bx i o) (.bx j o') ↔ (i=j/\o=o')/\i<nb:=⟨fun h=>by cases h<;>(rename_i h;exact⟨⟨rfl,rfl⟩,by simpa [KJ] using h⟩),fun⟨⟨h,h'⟩,h2⟩=>by subst h;subst h';exact .eq _ (by simpa [KJ] using h2)⟩
theorem zg5 (f f':Fn) (x y x' y':List PV):SubP nb (.fn f x y) (.fn f' x' y') ↔ (f=f'/\x=x'/\y=y')/\(x.all (VE nb) && y.all (VE nb))=true:=
 ⟨fun h=>by cases h<;>(rename_i h;exact⟨⟨rfl,rfl,rfl⟩,h⟩),fun⟨⟨h,h',h3⟩,h2⟩=>by subst h;subst h';subst h3;exact .eq _ h2⟩
theorem zg6 (x y:List (List PV)) (o:Ow):SubP nb (.sl x o) (.sl y .sh) ↔ x=y:=⟨fun h=>by cases h<;>rfl,fun h=>by subst h;exact .sh (.sl x o) rfl⟩
theorem zj1 (x y:List (List PV)):SubP nb (.sl x .z) (.sl y .z) ↔ x=y:=⟨fun h=>by cases h<;>rfl,fun h=>by subst h;exact .eq _ rfl⟩
theorem zjZ (x y:List (List PV)) (n m n' m':Nat):SubP nb (.sl x (.r n m)) (.sl y (.r n' m')) ↔ x=y/\n=n'/\m=m':=⟨fun h=>by cases h<;>exact⟨rfl,rfl,rfl⟩,fun⟨h,h',h2⟩=>by subst h;subst h';subst h2;exact .eq _ rfl⟩
theorem zg7 (x y:List (List PV)) (n m:Nat):SubP nb (.sl x .z) (.sl y (.r n m)) ↔ x=[]/\y=[]:=⟨fun h=>by cases h;exact⟨rfl,rfl⟩,fun⟨h,h'⟩=>by subst h;subst h';exact .nil _ _⟩
theorem zcC (t t':List (Nat × PV)) (b b':List (List PV)):QT ⟨t,b⟩ ⟨t',b'⟩ ↔ SubT b'.length t t'/\SubB b'.length b b':=Iff.rfl
theorem zah (t:List (Nat × PV)):SubT nb t [] ↔ True:=Iff.rfl
theorem V5 (t r:List (Nat × PV)) (i:Nat) (q:PV):SubT nb t ((i,q)::r) ↔ SubP nb (yL t i) q/\SubT nb t r:=Iff.rfl
theorem zaf (l:List (List PV)):SubB nb l [] ↔ True:=⟨fun _=>trivial,fun _=>.nil l⟩
def SubC (nb:Nat):List PV->List PV->Prop
 | [],[]=>True
 | p::l,q::r=>SubP nb p q/\SubC nb l r
 | _,_=>False
theorem SubC.get:∀ {l r:List PV},SubC nb l r->l.length=r.length/\∀(j:Nat) p q,l[j]? = some p->r[j]? = some q->SubP nb p q
 | [],[],_=>⟨rfl,fun j p q h=>by simp at h⟩
 | p::l,q::r,h=>by
   obtain⟨h1,h2⟩:=SubC.get h.2
   refine⟨by simp [h1],fun j p' q' hp hq=>?_⟩
   cases j with
   | zero=>simp at hp hq;subst hp;subst hq;exact h.1
   | succ j=>exact h2 j p' q' (by simpa using hp) (by simpa using hq)
 | [],_::_,h=>h.elim
 | _::_,[],h=>h.elim
theorem V4 (cs cs':List PV) (l l':List (List PV)) (h:SubC nb cs cs'/\SubB nb l l'):SubB nb (cs::l) (cs'::l'):=.cons _ _ _ _ h.1.get.1 h.1.get.2 h.2
theorem XO:∀(l r:List PV),l.length=r.length->(∀(j:Nat) p q,l[j]? = some p->r[j]? = some q->SubP nb p q)->SubC nb l r
 | [],[],_,_=>trivial
 | p::l,q::r,h,hc=>⟨hc 0 p q rfl rfl,XO l r (by simpa using h) fun j p q h1 h2=>hc (j+1) p q (by simpa using h1) (by simpa using h2)⟩
 | [],_::_,h,_=>by simp at h
 | _::_,[],h,_=>by simp at h
theorem Qh (cs cs':List PV) (l l':List (List PV)):SubB nb (cs::l) (cs'::l') ↔ SubC nb cs cs'/\SubB nb l l':=⟨fun h=>by cases h with | cons _ _ _ _ h hc hl=>exact⟨XO _ _ h hc,hl⟩,V4 cs cs' l l'⟩
theorem zcB:SubC nb [] [] ↔ True:=Iff.rfl
theorem zag (p q:PV) (l r:List PV):SubC nb (p::l) (q::r) ↔ SubP nb p q/\SubC nb l r:=Iff.rfl
end
def Z7 (s:Iv):List PV:=[.v (.int .u64 s.lo),.v (.int .u64 s.hi)]
def ivp (s:Iv):PV:=.agg (Z7 s)
def xC (x:Nat):List PV:=[.v (.int .u64 x)]
def rg (l:List Iv):PV:=.sl (l.map Z7) .sh
def rgs (ls:List (List Iv)):PV:=.sl (ls.map fun l=>[rg l]) .sh
theorem zhd (n:Int):IntKind.u64.wrap n=n % 18446744073709551616:=by
 simp only [IntKind.wrap,IntKind.bits,IntKind.signed,Bool.false_and,Bool.false_eq_true,if_false]
 rfl
theorem qr (k:Nat):(k:Int)+1=((k+1:Nat):Int):=Eq.trans rfl rfl
theorem pLoop.mk {body:(PX->PS->Prop)->PS->Prop} {Q:PX->PS->Prop} {s:PS} {ι:Type} (J:ι->Prop) (S:ι->PS) (m:ι->Nat) (i0:ι) (h0:J i0) (hs:QT s (S i0)) (hr:∀ i,J i->body (jP (fun s'=>∃ j,J j/\m j<m i/\QT s' (S j)) Q) (S i)):pLoop body Q s:=
 ⟨ι,J,S,m,i0,h0,hs,hr⟩
theorem zgW {n:Int} (h : -9223372036854775808<=n/\n<9223372036854775808):rng .i64 n=True:=by simp [rng,h]
theorem y7 {α:Type} {f:α->List PV} {l:List α} {k:Nat} (h:k<l.length):(l.map f)[k]? = some (f l[k]):=by rw [List.getElem?_map,List.getElem?_eq_getElem h];rfl
theorem zbN {k:Nat} (h:1<=k):(k:Int) - 1=((k - 1:Nat):Int):=by omega
theorem zdU {a b:Nat} (h:b<=a):(a:Int) - (b:Int)=((a - b:Nat):Int):=by omega
theorem zdT (a b:Nat):(a:Int)+(b:Int)=((a+b:Nat):Int):=by omega
theorem KN {n:Int} (h:0<=n/\n<18446744073709551616):n % 18446744073709551616=n:=Int.emod_eq_of_lt h.1 h.2
theorem zg2 {a:Int} (h:0<=a):zeu .u64 a 1=a / 2:=by
 unfold zeu
 rw [Int.fdiv_eq_ediv_of_nonneg _ (by decide)]
 rfl
theorem zbM (a:Nat):(a:Int) / 2=((a / 2:Nat):Int):=by omega
theorem Vq (s:PS):qE [] s=s:=rfl
theorem Y2 (i:PI) (h:List PI) (s:PS):qE (i::h) s=qE h (s.put i.d .und):=rfl
theorem zjp (es:List (List PV)) (o:Ow) (K:List (List PV)->Prop):ZJ (.sl es o) K=K es:=rfl
theorem ziM {α β:Type} (f:α->β) (n:Nat) (l:List α):List.take n (l.map f)=(l.take n).map f:=List.map_take.symm
theorem ziL {α β:Type} (f:α->β) (n:Nat) (l:List α):List.drop n (l.map f)=(l.drop n).map f:=List.map_drop.symm
theorem pLoop.go {P:Program} {nt:Nat} {fr:Prop} {pc:PC} {Q:PX->PS->Prop} {t:List (Nat × PV)} {b:List (List PV)} {ι:Type} (J:ι->Prop) (T:ι->List (Nat × PV)) (Bx:ι->List (List PV)) (m:ι->Nat) (i0:ι) (W:List Nat) (h0:J i0)
 (hs:QT ⟨t,b⟩ ⟨T i0++t.filter (fun y=>!W.contains y.1),Bx i0⟩) (hr:∀ i,J i->pW P nt fr pc (jP (fun s'=>∃ j,J j/\m j<m i/\QT s' ⟨T j++t.filter (fun y=>!W.contains y.1),Bx j⟩) Q) ⟨T i++t.filter (fun y=>!W.contains y.1),Bx i⟩):pLoop (pW P nt fr pc) Q ⟨t,b⟩:=
 ⟨ι,J,fun i=>⟨T i++t.filter (fun y=>!W.contains y.1),Bx i⟩,m,i0,h0,hs,hr⟩
theorem Dat.v_inv {D:Nat->Nat->Prop} {w:World} {x y:Value} (h:Dat D w x (.v y)):x=y:=(Rel.dat (ρ:=fun _=>0) (nb:=0) h).v_inv
theorem vG {D:Nat->Nat->Prop} {w:World} {v:Value} {l:List Iv} (h:Dat D w v (rg l)) (hD:∀ b o,D b o->b<w.heap.size) (hb:∀ s ∈ l,s.lo<zm/\s.hi<zm):RdR 0 w.heap.size w v l:=by
 unfold rg at h
 generalize he:l.map Z7=es at h
 cases h with
 | sl a cap sz es o b off u hc hz hm ha hsz hd hx=>
   have hl:es.length=l.length:=by rw [<-he];simp
   refine⟨a,cap,by rw [hl],by omega,hm,fun hne=>?_⟩
   have hpos:0<l.length:=List.length_pos_iff.2 hne
   have g:∀ i (h:i<l.length),es[i]? = some (Z7 l[i]):=fun i h=>by rw [<-he];exact y7 h
   obtain rfl:2=sz:=hsz 0 _ (g 0 hpos)
   have hes:es≠[]:=by intro e;subst e;simp at hl;omega
   have hdlt:b<w.heap.size:=hD _ _ (hd 0 (by omega)).1
   refine⟨b,off,ha hes,Nat.zero_le _,hdlt,fun i hi=>?_⟩
   have e0:=(hx i _ 0 _ (g i hi) rfl).v_inv
   have e1:=(hx i _ 1 _ (g i hi) rfl).v_inv
   have c0:=(hd (i * 2+0) (by omega)).2.1
   have c1:=(hd (i * 2+1) (by omega)).2.1
   rw [e0] at c0
   rw [e1] at c1
   exact⟨c0,c1,hb _ (List.getElem_mem _)⟩
theorem vN {D:Nat->Nat->Prop} {lo hi:Nat} {w:World} {v:Value} {l:List Iv} (h:RdR lo hi w v l) (hD:∀ b o,lo<=b->b<hi->D b o):Dat D w v (rg l):=by
 obtain⟨a,cap,rfl,h1,h2,h3⟩:=h
 unfold rg
 rw [show l.length=(l.map Z7).length by simp]
 by_cases hne:l=[]
 ·subst hne
  exact .sl a cap 2 [] .sh 0 0 (fun _=>undef) (by simp) (fun h=>by cases h) h2 (fun h=>absurd rfl h) (fun i e h=>by simp at h) (fun j h=>by simp at h) (fun i e j p h=>by simp at h)
 obtain⟨b,off,rfl,hb1,hb2,hc⟩:=h3 hne
 refine .sl _ cap 2 _ .sh b off (fun j=>(xf l).getD j undef) (by simpa using h1) (fun h=>by cases h) h2 (fun _=>rfl) (fun i e h=>?_) (fun j hj=>?_) (fun i e j p he hp=>?_)
 ·simp only [List.getElem?_map,Option.map_eq_some_iff] at h
  obtain⟨s,_,rfl⟩:=h
  rfl
 ·simp only [List.length_map] at hj
  obtain⟨i,r,rfl,hr⟩:∃ i r,j=i * 2+r/\r<2:=⟨j / 2,j % 2,by omega,by omega⟩
  have hi:i<l.length:=by omega
  obtain⟨c0,c1,_,_⟩:=hc i hi
  obtain⟨f0,f1⟩:=x8 l i hi
  refine⟨hD _ _ hb1 hb2,?_⟩
  obtain rfl | rfl:r=0\/r=1:=by omega
  ·rw [List.getD_eq_getElem?_getD,Nat.add_zero,f0]
   exact⟨c0,by simp [Value.oneCell']⟩
  ·rw [List.getD_eq_getElem?_getD,f1]
   exact⟨c1,by simp [Value.oneCell']⟩
 ·have hi:i<l.length:=by have:=(List.getElem?_eq_some_iff.1 he).1;simpa using this
  rw [y7 hi] at he
  cases he
  obtain⟨f0,f1⟩:=x8 l i hi
  match j,hp with
  | 0,hp=>cases hp;simp only [List.getD_eq_getElem?_getD,Nat.add_zero,f0];exact .v _
  | 1,hp=>cases hp;simp only [List.getD_eq_getElem?_getD,f1];exact .v _
  | j+2,hp=>simp [Z7] at hp
theorem Nrm.lt {l:List Iv} (h:Nrm l):∀ s ∈ l,s.lo<zm/\s.hi<zm:=fun s hs=>by
 have:=NF.lo_ge h s hs;omega
theorem Vh {f:FuncId} {ps:List PV} {r:PV} (hr:r.own=none) (hent:∀ args w,(callFunc f args).run Tryz.prog w=.ok (.enter f args) w)
 (h:∀(D:Nat->Nat->Prop) (w:World) (vs:Array Value),(∀ b o,D b o->b<w.heap.size)->vs.size=ps.length->(∀(i:Nat) p,ps[i]? = some p->Dat D w (vs.getD i undef) p) ->
   Calls Tryz.prog f vs w fun e w'=>∃ v,e=.returned v/\Below w.heap.size w w'/\Dat (fun b o=>D b o\/(w.heap.size<=b/\b<w'.heap.size)) w' v r):Cn Tryz.prog f ps r:=by
 refine⟨hent,fun D w vs _ hD hsz hd=>(h D w vs hD hsz hd).mono ?_⟩
 rintro e w' ⟨v,rfl,hb,hv⟩
 exact⟨v,_,rfl,hb,fun b o h=>.inl h,fun b o h=>h.imp id And.left,fun b o h=>h.elim (fun h=>Nat.lt_of_lt_of_le (hD b o h) hb.size) And.right,hv,zr hr⟩
theorem zcW {vs:Array Value} (h:vs.size=2):vs=#[vs.getD 0 undef,vs.getD 1 undef]:=by
 obtain⟨l⟩:=vs
 match l,h with
 | [x,y],_=>rfl
theorem zfC {f:FuncId} {a b r:List Iv} (ha:Nrm a) (hb:Nrm b) (hent:∀ args w,(callFunc f args).run Tryz.prog w=.ok (.enter f args) w)
 (h:∀ va vb w,RdR 0 w.heap.size w va a->RdR 0 w.heap.size w vb b->Calls Tryz.prog f #[va,vb] w fun e w'=>∃ v,e=.returned v/\OwnR w.heap.size w' v r/\Below w.heap.size w w'):Cn Tryz.prog f [rg a,rg b] (rg r):=by
 refine Vh rfl hent fun D w vs hD hsz hd=>?_
 rw [zcW hsz]
 refine(h _ _ w (vG (hd 0 _ rfl) hD ha.lt) (vG (hd 1 _ rfl) hD hb.lt)).mono ?_
 rintro e w' ⟨v,rfl,hv,hbl⟩
 exact⟨v,rfl,hbl,vN hv.rd fun b o h1 h2=>.inr ⟨h1,h2⟩⟩
theorem J7 (a b:List Iv) (ha:Nrm a) (hb:Nrm b) (hl:a.length+b.length<=1073741824):Cn Tryz.prog 67 [rg a,rg b] (rg (qJ zu a b)):=
 zfC ha hb (enters_of Tryz.func67 (by kernel_rfl) rfl) fun va vb w ra rb=>XS a b va vb w ha hb ra rb hl
theorem ze9 (a:List Iv) (s:Iv) (ha:Nrm a) (hs:s.lo<=s.hi) (hs':s.hi<zm) (hl:a.length<=1073741823):Cn Tryz.prog 136 [rg a,ivp s] (rg (qJ zQ [s] a)):=by
 refine Vh rfl (enters_of Tryz.func136 (by kernel_rfl) rfl) fun D w vs hD hsz hd=>?_
 rw [zcW hsz]
 have h1:vs.getD 1 undef=.agg #[.int .u64 s.lo,.int .u64 s.hi]:=by
  have:=hd 1 _ rfl
  unfold ivp at this
  generalize vs.getD 1 undef=v1 at this ⊢
  generalize hc:Z7 s=cs at this
  cases this with
  | agg us cs hs _ h=>
    subst hc
    obtain⟨l⟩:=us
    match l,hs with
    | [x,y],_=>
      have e0:=(h 0 _ rfl).v_inv
      have e1:=(h 1 _ rfl).v_inv
      simp at e0 e1
      rw [e0,e1]
 rw [h1]
 refine(KO a _ s w ha hs hs' (vG (hd 0 _ rfl) hD ha.lt) hl).mono ?_
 rintro e w' ⟨v,rfl,hv,hbl⟩
 exact⟨v,rfl,hbl,vN hv.rd fun b o h1 h2=>.inr ⟨h1,h2⟩⟩
attribute [go_sem] zb7 zb6 zbn zkr zkp zkq zbF zdO zdm zje zjc zi9 zjf zi7 zja zjd zjb KS KR KT zb0
attribute [go_sem] zbX zbZ zeG zeI zeH zaC zaD zaE zd7 zd8 zd9 Vq Y2 zjp ziM ziL qH PV.v.injEq
attribute [go_sem] exists_eq' exists_eq ne_eq not_false_eq_true not_true_eq_false List.append_eq_nil_iff List.cons_ne_nil zea zeb zb2 zen zjF zjG
attribute [go_sem] zgR zgS zer zct zjM zjO zjN zjJ zjL zjK PV.resD List.all_cons List.all_nil zbY KE Vx zaa K9
attribute [go_sem] zi4 zgF zgG zgH zgI zgK zaA zaz zgc zkg zdJ zkO zkP zgi zkk zft zfu zjI zhY zhZ zh0 zh1 zhz
attribute [go_sem] zhy zhB zhA ziC ziB ziF ziE ziJ ziI ziH ziG Vc zaI zaH Ve zaJ Kg Kh Vd
attribute [go_sem] Vf zaL zaK Ki Kj Vg zdt zbh zi8 zeU zeT zfY zfV zfX zfW zh9 zji zjh zhV zhT
attribute [go_sem] zdq zbe zdr zbf ziv zic ziz zie zk9 zkL zk8 zkK zkS zkv zk4 zkF zk2 zkD zk6 zkI zk7 zkJ zkZ zkA zhK ziR ziQ ziP ziO zhm zhn
attribute [go_sem] zdS zbJ zih zga zdE zf7 zf8 zf9 zdF zgd zgf zgW y7 zbN zdU zdT KN Int.cast_ofNat_Int
attribute [go_sem] Int.natCast_eq_zero List.length_eq_zero_iff decide_true decide_false List.filter_cons List.filter_nil List.contains_cons List.contains_nil Bool.or_false
attribute [go_sem] Bool.false_or Bool.or_true Bool.true_or Bool.and_false Bool.false_and List.any_cons List.any_nil List.mem_map forall_exists_index and_imp
attribute [go_sem] forall_apply_eq_imp_iff₂ List.mem_append List.mem_cons List.not_mem_nil List.mem_singleton or_false or_imp forall_and forall_eq_or_imp bne_self_eq_false
attribute [go_sem] Bool.bne_false Bool.bne_true Bool.false_bne Bool.true_bne beq_self_eq_true ziX ziY zlD zlE ziT ziU VO VM ziu zib zit
attribute [go_sem] zia ziA zif zk0 zkB zk1 zkC zk3 zkE zkG zk5 zkH zkV zkx zkX zky ziy zix zgn zgl zgm zf1 zfZ zf0 zla zkM zlb
attribute [go_sem] zkN zhC zhD zhE zhF ziw zid zg9 zj2 zkT zkW zjY zjX zlc zkY zhH zhI zc0 zfy zhJ zc1 zfx zkz zkU zht
attribute [go_sem] zhu zhr zhq zhs zhp zkw vl xG x5 xA JE zdD YI yu isT zez zac zae zcA zeA zey zew
attribute [go_sem] zcx zcy zcz zad zlA zgZ zg1 zjV zjS zjT zjU zg0 zi5 zd2 zd4 zgE zi6 zi2 zgB zgC zgD
attribute [go_sem] zd3 zfJ za5 za7 zdn zfK zfI zfG zdj zdk zdl za6 za8 zaS zda Kl Ko zaT
attribute [go_sem] zdb zaP zaQ zaR Km Kp zjm zed zeg zgO zjn zgL zgM zgN zee zeh zc9 zc7 zc8
attribute [go_sem] zjl zjj zjk zcu zcv zgY zjR zjQ zjP zex zi3 zfH zii zdG zdI zgg zge zdH zav Kc zeF
attribute [go_sem] zj0 zeB zeE zeD zg4 zg3 zg5 zg6 zj1 zjZ zg7 zcC zah V5 zaf Qh zcB zag
attribute [go_sem] Value.int.injEq Value.bool.injEq Int.toNat_natCast Int.natCast_nonneg qr zhd Int.natCast_pos qM Value.oneCell' ivp rg Z7 xC rgs
attribute [go_sem] List.flatMap_nil List.length_cons List.length_nil List.map_cons List.map_nil List.nil_append List.cons_append List.append_nil List.getElem?_cons_zero
attribute [go_sem] List.getElem?_cons_succ List.getElem?_nil List.take_succ_cons List.take_zero List.drop_succ_cons List.drop_zero List.take_nil List.drop_nil
attribute [go_sem] List.set_cons_zero List.set_cons_succ List.length_map Option.map_some Option.some.injEq Option.isSome_some Option.getD_some decide_eq_true_eq
attribute [go_sem] Bool.and_eq_true Bool.or_eq_true true_and and_true false_and and_false forall_const true_implies false_implies implies_true Bool.true_eq_false
attribute [go_sem] Bool.false_eq_true Bool.not_true Bool.not_false Bool.and_true Bool.true_and Nat.zero_add Nat.add_zero Nat.le_refl Int.ofNat_le Int.ofNat_lt
attribute [go_sem] Int.ofNat_inj forall_eq
attribute [go_sem] zg2 zbM zdR zbI zh7 zks zfQ zfT zh8 zh4 zh5 zfR zfU zh6 zfO zh3 zfP
theorem xS {a:Prop} (h:a:=by first | omega | assumption | exact True.intro | (show zaw _ _=true;exact rfl) | (simp only [List.length_map,List.length_append,List.length_cons,List.length_nil,List.length_take,List.length_drop];omega)):a:=h
theorem zf:(∀ {p:Prop} [Decidable p],(decide p=true)=p)/\(∀ {p:Prop} {x:Decidable p},decide p=false ↔ ¬p)/\(∀(a b:Bool),((a && b)=true)=(a=true/\b=true))/\(∀(a b:Bool),((a || b)=true)=(a=true\/b=true))/\(∀(b:Bool),((!b)=true)=(b=false))/\(∀(b:Bool),((!b)=false)=(b=true))/\(∀ {x y:Bool},(x && y)=false ↔ x=false\/y=false)/\(∀ {x y:Bool},(x || y)=false ↔ x=false/\y=false)/\(∀ {a b:Nat},¬a<b ↔ b<=a)/\(∀ {a b:Int},¬a<b ↔ b<=a)/\(∀ {a b:Nat},¬a<=b ↔ b<a)/\(∀ {a b:Int},¬a<=b ↔ b<a)/\(∀ {n m:Nat},(n:Int)<(m:Int) ↔ n<m)/\(∀ {m n:Nat},(m:Int)<=(n:Int) ↔ m<=n)/\(∀ {m n:Nat},(m:Int)=(n:Int) ↔ m=n)/\(∀(x:Bool),(x ^^ false)=x)/\(∀(x:Bool),(false ^^ x)=x)/\(∀(x:Bool),(true ^^ x)=!x)/\(∀(x:Bool),(x ^^ true)=!x)/\((!true)=false)/\((!false)=true):=
 ⟨@decide_eq_true_eq,@decide_eq_false_iff_not,@Bool.and_eq_true,@Bool.or_eq_true,@Bool.not_eq_true',@Bool.not_eq_false',@Bool.and_eq_false_iff,@Bool.or_eq_false_iff,@Nat.not_lt,@Int.not_lt,@Nat.not_le,@Int.not_le,@Int.ofNat_lt,@Int.ofNat_le,@Int.ofNat_inj,@Bool.xor_false,@Bool.false_xor,@Bool.true_xor,@Bool.xor_true,Bool.not_true,Bool.not_false⟩
theorem pw {G G':Prop} (k:G') (e:Hd G'->G:=by intro k_;(try simp (maxSteps:=2000000) (disch:=omega) only [go_sem,seval]);(repeat ((with_reducible refine And.intro ?_ ?_);focus exact xS));exact k_.h):G:=e ⟨k⟩
theorem pd {G:Prop} (e:Hd True->G:=by intro k_;(try simp (maxSteps:=2000000) (disch:=omega) only [go_sem,seval]);(repeat ((with_reducible refine And.intro ?_ ?_);focus exact xS))):G:=e ⟨trivial⟩
theorem callP.c {P:Program} {K:PS->Prop} {d:Option Nat} {s:PS} {G':Prop} {f:FuncId} {xs:List PV} {r:PV} (h:Cn P f xs r) (k:G') (hd:zZ xs=true:=by exact rfl) (e:Hd G'->K (s.put d r):=by intro k_;(try simp (maxSteps:=2000000) (disch:=omega) only [go_sem,seval]);(repeat ((with_reducible refine And.intro ?_ ?_);focus exact xS));exact k_.h):callP P f xs K d s:=.mk h hd (e ⟨k⟩)
theorem callQ.c {P:Program} {K:PS->Prop} {d:Option Nat} {s:PS} {G':Prop} {f:FuncId} {xs:List PV} {r:PV} (h:Cn P f xs r) (k:G') (hd:zZ xs=true:=by exact rfl) (e:Hd G'->K (s.put d r.strip):=by intro k_;(try simp (maxSteps:=2000000) (disch:=omega) only [go_sem,seval]);(repeat ((with_reducible refine And.intro ?_ ?_);focus exact xS));exact k_.h):callQ P f xs K d s:=.mk h hd (e ⟨k⟩)
theorem callO.c {P:Program} {K:PS->Prop} {d:Option Nat} {s:PS} {n sz:Nat} {G':Prop} {f:FuncId} {es:List (List PV)} {xs:List PV} {r:PV} (h:Cn P f (.sl es .sh::xs) r) (k:G') (hd:zZ xs=true:=by exact rfl) (e:Hd G'->K (s.put d r):=by intro k_;(try simp (maxSteps:=2000000) (disch:=omega) only [go_sem,seval]);(repeat ((with_reducible refine And.intro ?_ ?_);focus exact xS));exact k_.h):callO P f es n sz xs K d s:=.rd h hd (e ⟨k⟩)
theorem callO.o {P:Program} {K:PS->Prop} {d:Option Nat} {s:PS} {n sz:Nat} {G':Prop} {f:FuncId} {es rs:List (List PV)} {xs:List PV} (h:OCn P f es sz xs rs) (k:G') (hd:zZ xs=true:=by exact rfl) (e:Hd G'->K ((s.down n).put d (.sl rs (.r n sz))):=by intro k_;(try simp (maxSteps:=2000000) (disch:=omega) only [go_sem,seval]);(repeat ((with_reducible refine And.intro ?_ ?_);focus exact xS));exact k_.h):callO P f es n sz xs K d s:=.mk h hd (e ⟨k⟩)
theorem callP.d {P:Program} {K:PS->Prop} {d:Option Nat} {s:PS} {f:FuncId} {xs:List PV} {r:PV} (h:Cn P f xs r) (hd:zZ xs=true:=by exact rfl) (e:Hd True->K (s.put d r):=by intro k_;(try simp (maxSteps:=2000000) (disch:=omega) only [go_sem,seval]);(repeat ((with_reducible refine And.intro ?_ ?_);focus exact xS))):callP P f xs K d s:=.mk h hd (e ⟨trivial⟩)
theorem callQ.d {P:Program} {K:PS->Prop} {d:Option Nat} {s:PS} {f:FuncId} {xs:List PV} {r:PV} (h:Cn P f xs r) (hd:zZ xs=true:=by exact rfl) (e:Hd True->K (s.put d r.strip):=by intro k_;(try simp (maxSteps:=2000000) (disch:=omega) only [go_sem,seval]);(repeat ((with_reducible refine And.intro ?_ ?_);focus exact xS))):callQ P f xs K d s:=.mk h hd (e ⟨trivial⟩)
theorem callO.d {P:Program} {K:PS->Prop} {d:Option Nat} {s:PS} {n sz:Nat} {f:FuncId} {es:List (List PV)} {xs:List PV} {r:PV} (h:Cn P f (.sl es .sh::xs) r) (hd:zZ xs=true:=by exact rfl) (e:Hd True->K (s.put d r):=by intro k_;(try simp (maxSteps:=2000000) (disch:=omega) only [go_sem,seval]);(repeat ((with_reducible refine And.intro ?_ ?_);focus exact xS))):callO P f es n sz xs K d s:=.rd h hd (e ⟨trivial⟩)
theorem callO.q {P:Program} {K:PS->Prop} {d:Option Nat} {s:PS} {n sz:Nat} {f:FuncId} {es rs:List (List PV)} {xs:List PV} (h:OCn P f es sz xs rs) (hd:zZ xs=true:=by exact rfl) (e:Hd True->K ((s.down n).put d (.sl rs (.r n sz))):=by intro k_;(try simp (maxSteps:=2000000) (disch:=omega) only [go_sem,seval]);(repeat ((with_reducible refine And.intro ?_ ?_);focus exact xS))):callO P f es n sz xs K d s:=.mk h hd (e ⟨trivial⟩)
theorem callP.rd {P:Program} {K:PS->Prop} {d:Option Nat} {s:PS} {f:FuncId} {xs:List PV} {r:PV} (h:Cn P f xs r) (hd:zZ xs=true) (hk:K (s.put d r)):callP P f xs K d s:=.mk h hd hk
theorem callQ.rd {P:Program} {K:PS->Prop} {d:Option Nat} {s:PS} {f:FuncId} {xs:List PV} {r:PV} (h:Cn P f xs r) (hd:zZ xs=true) (hk:K (s.put d r.strip)):callQ P f xs K d s:=.mk h hd hk
theorem brP.i {s:PS} {c:Bool} {X Y:PS->Prop} (h1:c=true->X s) (h2:c=false->Y s):brP (.v (.bool c)) X Y s:=.mk h1 h2
theorem pkP.i {s:PS} {c:Bool} {X Y:PS->Prop} (h1:c=true->X s) (h2:c=false->Y s):pkP (.v (.bool c)) X Y s:=.mk h1 h2
theorem gdP.i {s:PS} {d:Option Nat} {c b:Bool} {i:Nat} {X Y:PS->Prop} (h1:c=true->(match b with | true=>X (s.put (some i) (.v (.bool true))) | false=>Y ((s.put (some i) (.v (.bool true))).put d (.v undef)))) (h2:c=false->(match b with | true=>Y ((s.put (some i) (.v (.bool false))).put d (.v undef)) | false=>X (s.put (some i) (.v (.bool false))))):gdP (.v (.bool c)) i b d X Y s:=by
 cases b
 ·exact .mkf h1 h2
 ·exact .mkt h1 h2
theorem zJ {P:Program} {f:FuncId} {fn:Func} (hf:P.funcs[f]? = some fn) {ps:List PV} {r:PV} (n:Nat) {G':Prop} (k:G') (hok:KP P fn [] n=true:=by kernel_rfl) (hl:ps.length=n:=by exact rfl) (hps:∀ p ∈ ps,p.own=none:=by simp [go_sem,seval]) (e:Hd G'->pW P fn.ntmps True (KU P fn []) (ZC (zeq P fn) r) ⟨qM 0 ps,[]⟩:=by intro k_;(conv=>arg 4;cbv);(conv=>enter [5,1];cbv);exact k_.h):Cn P f ps r:=zeV hf [] n hok hl hps (e ⟨k⟩)
end Go.Proofs.YtjimggclhlnfbaaGreat
namespace Go.Proofs.YtjimggclhlnfbaaGreat
open Go.ChangeShapes Go.WideShapes Go.ChangeAt Go.RowKit Go.Deep
def kU (w:World):Nat->Nat->Prop:=fun b _=>b<w.heap.size
def zfp (D:Nat->Nat->Prop) (w:World):List Value->List PV->Prop
 | [],[]=>True
 | v::l,p::ps=>Dat D w v p/\zfp D w l ps
 | _,_=>False
theorem YS {D:Nat->Nat->Prop} {w:World}:∀ {l:List Value} {ps:List PV},zfp D w l ps->l.length=ps.length/\∀(i:Nat) p,ps[i]? = some p->Dat D w (l.getD i undef) p
 | [],[],_=>⟨rfl,fun i p h=>by simp at h⟩
 | v::l,p::ps,h=>by
   obtain⟨h1,h2⟩:=YS h.2
   refine⟨by simp [h1],fun i q hq=>?_⟩
   cases i with
   | zero=>cases hq;exact h.1
   | succ i=>simpa using h2 i q (by simpa using hq)
 | [],_::_,h=>h.elim
 | _::_,[],h=>h.elim
theorem zdd {f:FuncId} {ps:List PV} {l:List Value} {W:World} (h:Cn Tryz.prog f ps (.v (.bool true))) (hgl:GL (kU W) W) (hd:zfp (kU W) W l ps):Calls Tryz.prog f l.toArray W fun e W'=>e=.returned (.bool true)/\Below W.heap.size W W':=by
 obtain⟨h1,h2⟩:=YS hd
 refine(h.2 (kU W) W l.toArray hgl (fun _ _ h=>h) (by simpa using h1) (fun i p hp=>by have:=h2 i p hp;simpa [List.getD_eq_getElem?_getD] using this)).mono ?_
 rintro e W' ⟨v,D',rfl,hb,_,_,_,hv,_⟩
 rw [hv.v_inv]
 exact⟨rfl,hb⟩
section
variable {H:Type} {enc:TypeId × Value->H} {w:World} {base:Nat} {spare:Nat->Bool} {held:Bool}
end
end Go.Proofs.YtjimggclhlnfbaaGreat
namespace Go.Proofs.YtjimggclhlnfbaaGreat
open Go.RowKit
theorem zf2 (s:Iv) (x:Nat):Cn Tryz.prog 76 [ivp s,.v (.int .u64 x)] (.v (.bool (decide (s.lo<=x) && decide (x<=s.hi)))):=by
 refine zJ Tryz.func76 2 ?_
 refine pw ?_
 refine .i ?_ ?_<;>intro h<;>(try simp only [zf] at h)<;>first | refine pw ?_ | exact pd
 ·simp [h]
 ·simp;omega
theorem zbH {l:List Iv} {k x:Nat} (h:k<l.length):mem (l.drop k) x=((decide (l[k].lo<=x) && decide (x<=l[k].hi)) || mem (l.drop (k+1)) x):=by
 rw [List.drop_eq_getElem_cons h];rfl
theorem j8 (l:List Iv) (x:Nat) (hl:l.length<=1152921504606846976):Cn Tryz.prog 47 [rg l,.v (.int .u64 x)] (.v (.bool (mem l x))):=by
 refine zJ Tryz.func47 2 ?_
 refine pw ?_
 refine pLoop.go (fun k=>k<=l.length/\mem l x=mem (l.drop k) x) (fun k=>[(5,.v (.int .i64 (k:Nat)))]) (fun _=>[]) (fun k=>l.length - k) 0 [5] ?_ ?_ ?_
 ·exact⟨Nat.zero_le _,rfl⟩
 ·exact pd
 ·rintro k ⟨hk,hm⟩
  refine pw ?_
  refine .i ?_ ?_<;>intro h<;>(try simp only [zf] at h)<;>first | refine pw ?_ | exact pd
  ·refine callP.mk (zf2 l[k] x) rfl ?_
   refine pw ?_
   have hd:=zbH (x:=x) h
   refine .i ?_ ?_<;>intro e<;>(try simp only [zf] at e)<;>first | refine pw ?_ | exact pd
   ·rw [hm,hd,<-Bool.decide_and];simp [e]
   ·refine⟨k+1,⟨h,?_⟩,by omega,rfl⟩
    rw [hm,hd,<-Bool.decide_and];simp [e];omega
  ·rw [hm,List.drop_of_length_le (by omega)];rfl
theorem ze6:Cn Tryz.prog 58 [] (.v (.int .u64 18446744073709551615)):=by
 refine zJ Tryz.func58 0 ?_
 exact pd
theorem zco (s t:Iv) (h1:s.lo<zm) (h2:t.lo<zm):Cn Tryz.prog 112 [ivp s,ivp t] (.v (.int .i64 (zY s t:Nat))):=by
 refine zJ Tryz.func112 2 ?_
 refine pw ?_
 have hM:=zA
 unfold zY
 refine .i ?_ ?_<;>intro h<;>(try simp only [zf] at h)<;>first | refine pw ?_ | exact pd
 ·refine .i ?_ ?_<;>intro h'<;>(try simp only [zf] at h')<;>first | refine pw ?_ | exact pd
  ·rw [if_pos h,if_pos (by omega)];rfl
  ·rw [if_pos h,if_neg (by omega)];rfl
 ·refine .i ?_ ?_<;>intro h'<;>(try simp only [zf] at h')<;>first | refine pw ?_ | exact pd
  ·refine .i ?_ ?_<;>intro h3<;>(try simp only [zf] at h3)<;>first | refine pw ?_ | exact pd
   ·rw [if_neg (by omega),if_pos h',if_pos (by omega)];rfl
   ·rw [if_neg (by omega),if_pos h',if_neg (by omega)];rfl
  ·rw [if_neg (by omega),if_neg (by omega)];rfl
theorem zg8 (a b:Bool) (op:Nat) (ho:op<3):Cn Tryz.prog 104 [.v (.bool a),.v (.bool b),.v (.int .i64 op)] (.v (.bool (VL op a b))):=by
 refine zJ Tryz.func104 3 ?_
 obtain rfl | rfl | rfl:op=0\/op=1\/op=2:=by omega
 all_goals (cases a<;>cases b<;>simp (maxSteps:=2000000) (disch:=omega) only [go_sem,seval]<;>rfl)
theorem JU (l:List Nat) (k:Nat) (hk:k<l.length) (hl:l.length<=1152921504606846976) (hs:∀ h:k+1<l.length,1<=l[k+1]/\l[k+1]<zm):Cn Tryz.prog 35 [.sl (l.map fun x=>[.v (.int .u64 (x:Nat))]) .sh,.v (.int .i64 k)] (ivp ⟨l[k],if h:k+1<l.length then l[k+1] - 1 else zm - 1⟩):=by
 have hM:=zA
 refine zJ Tryz.func35 2 ?_
 refine pw ?_
 refine .i ?_ ?_<;>intro h<;>(try simp only [zf] at h)<;>first | refine pw ?_ | exact pd
 ·obtain⟨h1,h2⟩:=hs h
  rw [dif_pos h]
  exact pd
 ·refine callQ.mk ze6 rfl ?_
  rw [dif_neg (by omega)]
  refine pw ?_
  rfl
theorem zb5 {l:List Iv} (h:0<l.length) (s:Iv):Qb l s=if l[l.length - 1].hi+1=s.lo then l.take (l.length - 1)++[⟨l[l.length - 1].lo,s.hi⟩] else l++[s]:=by
 unfold Qb
 rw [List.getLast?_eq_getElem?,List.getElem?_eq_getElem (by omega),List.dropLast_eq_take]
theorem zek {l:List Iv} (h:l.length<=0) (s:Iv):Qb l s=l++[s]:=by
 have:l=[]:=List.eq_nil_of_length_eq_zero (by omega)
 subst this;rfl
theorem zjo (l:List Iv) (s:Iv) (hs:s.lo<zm) (hb:∀ t ∈ l,t.lo<zm/\t.hi<s.lo) (hl:l.length<1099511627776):OCn Tryz.prog 105 (l.map Z7) 2 [ivp s] ((Qb l s).map Z7):=by
 refine zgx Tryz.func105 [] 2 4 (by kernel_rfl) (by kernel_rfl) rfl (by simp [go_sem,seval]) ?_
 conv=>arg 4;cbv
 refine pw ?_
 refine .i ?_ ?_<;>intro h0<;>(try simp only [zf] at h0)<;>first | refine pw ?_ | exact pd
 ·refine callQ.mk (zco l[l.length - 1] s (hb _ (List.getElem_mem _)).1 hs) rfl ?_
  have h1:=(hb _ (List.getElem_mem (show l.length - 1<l.length by omega))).2
  refine pw ?_
  rw [zb5 h0]
  unfold zY
  rw [if_pos h1]
  refine .i ?_ ?_<;>intro h<;>(try simp only [zf] at h)<;>first | refine pw ?_ | exact pd
  ·rw [if_pos (by split at h<;>first | assumption | cases h)]
   simp [Z7]
  ·rw [if_neg (by split at h<;>first | assumption | exact absurd rfl h)]
   simp [Z7]
 ·rw [zek h0]
  simp [Z7]
end Go.Proofs.YtjimggclhlnfbaaGreat
