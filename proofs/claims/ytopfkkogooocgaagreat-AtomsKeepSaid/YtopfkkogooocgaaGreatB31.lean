import Derived.Attr
import Derived.Test.YtopfkkogooocgaaGreatProg
import Derived.Test.YtopfkkogooocgaaGreatB5
import Derived.Test.YtopfkkogooocgaaGreatB6
import Derived.Test.YtopfkkogooocgaaGreatB14
set_option linter.unusedVariables false
set_option linter.unusedSimpArgs false
set_option maxRecDepth 100000
namespace Go.Proofs.YtopfkkogooocgaaGreat
open Go.RowKit
section
variable {P:Program} {nt:Nat} {fr:Prop} {d:Option Nat} {t:List (Nat × PV)} {b:List (List PV)} {s:PS} {K:PS->Prop} {Q:PX->PS->Prop} {l:List PI}
theorem zdN (i:Nat) (p:PV):PS.put ⟨t,b⟩ (some i) p=⟨(i,p)::t,b⟩:=Eq.trans rfl rfl
theorem zdM (p:PV):PS.put ⟨t,b⟩ none p=⟨t,b⟩:=Eq.trans rfl rfl
theorem zcX (i:Nat):PS.get ⟨t,b⟩ i=yr t i:=Eq.trans rfl rfl
theorem zmt (i:Nat):PS.ev ⟨t,b⟩ (.t i)=yr t i:=Eq.trans rfl rfl
theorem zmr (p:PV):PS.ev s (.c p)=p:=Eq.trans rfl rfl
theorem zms (f:FuncId):PS.ev s (.f f)=.fn (.func f) [] []:=Eq.trans rfl rfl
theorem zdh (j i:Nat) (p:PV) (r:List (Nat × PV)):yr ((j,p)::r) i=if j=i then p else yr r i:=Eq.trans rfl rfl
theorem zfG (i:Nat):yr [] i=.und:=Eq.trans rfl rfl
theorem ze9 (n:Nat):PS.down n ⟨t,b⟩=⟨t.map fun y=>(y.1,y.2.down n),b.map fun cs=>cs.map (PV.down n)⟩:=Eq.trans rfl rfl
theorem zlh:pW P nt fr .sk Q s=Q .n s:=Eq.trans rfl rfl
theorem zlf (l:List PI):pW P nt fr (.rg l) Q s=ze P l (Q .n) s:=Eq.trans rfl rfl
theorem zlc (h l:List PI):pW P nt fr (.dr h l) Q s=zf P h (qZ P fr h s.clean l (Q .n)) s.clean:=Eq.trans rfl rfl
theorem zli (x y:PC):pW P nt fr (.sq x y) Q s=pW P nt fr x (kL (pW P nt fr y Q) Q) s:=Eq.trans rfl rfl
theorem zla (id:Nat) (x:PC):pW P nt fr (.bk id x) Q s=pW P nt fr x (jM id Q) s:=Eq.trans rfl rfl
theorem zld (id:Nat):pW P nt fr (.ex id) Q s=Q (.x id) s:=Eq.trans rfl rfl
theorem zlg:pW P nt fr .rt Q s=Q .r s:=Eq.trans rfl rfl
theorem zle (w:List Nat) (x:PC):pW P nt fr (.lp w x) Q s=pLoop (pW P nt fr x) Q s:=Eq.trans rfl rfl
theorem zbr:ze P [] K s=K s:=Eq.trans rfl rfl
theorem zbq:zf P [] K s=K s:=Eq.trans rfl rfl
theorem zbs (h:List PI) (s0:PS):qZ P fr h s0 [] K s=K s:=Eq.trans rfl rfl
theorem zdD (h:List PI) (s0:PS) (d:Option Nat) (x y:PO) (n:Nat) (l:List PI):qZ P fr h s0 (⟨d,none,.st x y n⟩::l) K s=ze P (⟨d,none,.st x y n⟩::l) K s:=by cases d<;>rfl
theorem zdA (h:List PI) (s0:PS) (d:Option Nat) (zs:List PV) (l:List PI):qZ P fr h s0 (⟨d,none,.al zs⟩::l) K s=ze P (⟨d,none,.al zs⟩::l) K s:=by cases d<;>rfl
theorem zdC (h:List PI) (s0:PS) (d:Option Nat) (x:PO) (l:List PI):qZ P fr h s0 (⟨d,none,.bo x⟩::l) K s=ze P (⟨d,none,.bo x⟩::l) K s:=by cases d<;>rfl
theorem zgy (K:PS->Prop):kL K Q .n s=K s:=Eq.trans rfl rfl
theorem zgA (K:PS->Prop) (i:Nat):kL K Q (.x i) s=Q (.x i) s:=Eq.trans rfl rfl
theorem zgz (K:PS->Prop):kL K Q .r s=Q .r s:=Eq.trans rfl rfl
theorem zb8 (id:Nat):jM id Q .n s=Q .n s:=Eq.trans rfl rfl
theorem zb9 (id:Nat):jM id Q .r s=Q .r s:=Eq.trans rfl rfl
theorem zca (id i:Nat):jM id Q (.x i) s=if i=id then Q .n s else Q (.x i) s:=Eq.trans rfl rfl
theorem zf1 (rs:List RV) (r:PV):jG rs r .n s=jC rs s r:=Eq.trans rfl rfl
theorem zf2 (rs:List RV) (r:PV):jG rs r .r s=jC rs s r:=Eq.trans rfl rfl
theorem zf3 (rs:List RV) (r:PV) (i:Nat):jG rs r (.x i) s=False:=Eq.trans rfl rfl
theorem zgh (i:Nat) (r:PV):jC [.t i] s r=SubP 0 (s.get i) r:=Eq.trans rfl rfl
def J8 (rs:List (List PV)) (sz:Nat):PV->Prop
 | .sl es (.r _ sz')=>es=rs/\sz'=sz
 | _=>False
theorem zf4 (i sz:Nat) (rs:List (List PV)):zao i rs sz .n s=J8 rs sz (s.get i):=by
 show (match s.get i with | .sl es (.r _ sz')=>es=rs/\sz'=sz | _=>False)=_
 cases s.get i<;>rfl
theorem zf5 (i sz:Nat) (rs:List (List PV)):zao i rs sz .r s=J8 rs sz (s.get i):=by
 show (match s.get i with | .sl es (.r _ sz')=>es=rs/\sz'=sz | _=>False)=_
 cases s.get i<;>rfl
theorem zdG (es rs:List (List PV)) (n m sz:Nat):J8 rs sz (.sl es (.r n m))=(es=rs/\m=sz):=Eq.trans rfl rfl
def zlF:Option PV->PV->Prop
 | some p,r=>p.resD=true/\SubP 0 p.sh r/\r.own=none
 | none,_=>False
def zlG:Option (List PV)->PV->Prop
 | some ps,r=>ps.all PV.resD=true/\SubP 0 (.tup (ps.map PV.sh)) r
 | none,_=>False
def rvC:Option PV->Option (List PV)->Option (List PV)
 | some p,some ps=>some (p::ps)
 | _,_=>none
def rvB:Option (List PV)->Nat->Bool->Nat->Option PV
 | some cs,o,true,n=>if o+n<=cs.length then some (.agg ((cs.drop o).take n)) else none
 | some cs,o,false,_=>cs[o]?
 | none,_,_,_=>none
def rvA:PV->List (List PV)->Bool->Nat->Option PV
 | .bx j o,b,ag,n=>rvB b[j]? o ag n
 | _,_,_,_=>none
theorem zlH (i:Nat) (ag:Bool) (n:Nat) (r:PV):jC [.c i ag n] s r=zlF (RV.get s (.c i ag n)) r:=by
 show (match RV.get s (.c i ag n) with | some p=>_ | none=>False)=_
 cases RV.get s (.c i ag n)<;>rfl
theorem zlI (x y:RV) (l:List RV) (r:PV):jC (x::y::l) s r=zlG (YJ s (x::y::l)) r:=by
 have:jC (x::y::l) s r=(match YJ s (x::y::l) with | some ps=>ps.all PV.resD=true/\SubP 0 (.tup (ps.map PV.sh)) r | none=>False):=by cases x<;>rfl
 rw [this]
 cases YJ s (x::y::l)<;>rfl
theorem ziM (p r:PV):zlF (some p) r=(p.resD=true/\SubP 0 p.sh r/\r.own=none):=Eq.trans rfl rfl
theorem ziN (ps:List PV) (r:PV):zlG (some ps) r=(ps.all PV.resD=true/\SubP 0 (.tup (ps.map PV.sh)) r):=Eq.trans rfl rfl
theorem zgl:YJ s []=some []:=Eq.trans rfl rfl
theorem zd7 (x:RV) (l:List RV):YJ s (x::l)=rvC (x.get s) (YJ s l):=by
 show ((x.get s).bind fun p=>(YJ s l).map fun ps=>p::ps)=_
 cases x.get s<;>cases YJ s l<;>rfl
theorem zlN (p:PV) (ps:List PV):rvC (some p) (some ps)=some (p::ps):=Eq.trans rfl rfl
theorem zlP (i:Nat):RV.get ⟨t,b⟩ (.t i)=some (yr t i):=Eq.trans rfl rfl
theorem zlO (i:Nat) (ag:Bool) (n:Nat):RV.get ⟨t,b⟩ (.c i ag n)=rvA (yr t i) b ag n:=by
 unfold RV.get
 simp only [zcX]
 cases yr t i<;>try rfl
 dsimp only [rvA]
 rename_i j o
 generalize b[j]? = c
 cases c<;>cases ag<;>rfl
theorem zlK (j o:Nat) (ag:Bool) (n:Nat):rvA (.bx j o) b ag n=rvB b[j]? o ag n:=Eq.trans rfl rfl
theorem zlM (cs:List PV) (o n:Nat):rvB (some cs) o true n=if o+n<=cs.length then some (.agg ((cs.drop o).take n)) else none:=Eq.trans rfl rfl
theorem zlL (cs:List PV) (o n:Nat):rvB (some cs) o false n=cs[o]?:=Eq.trans rfl rfl
def zb2 (h:List PI) (x:Nat):Bool:=h.any fun i=>i.d == some x
def cutP (P:Program) (h:List PI) (s0:PS) (n d:Nat) (E:Prop) (p:PV) (l:List PI) (K:PS->Prop) (F:Prop):Prop:=(E/\∃ keep,keepOk h n s0 keep/\ze P l K ⟨(d,p)::keep.map (fun j=>(j,s0.get j)),[]⟩)\/F
def zcV (P:Program) (h:List PI) (s0:PS) (d n sz i x:Nat) (es0 es:List (List PV)) (y:PO) (l:List PI) (K:PS->Prop) (p:PV) (s:PS):Prop:=
 (h.all fun y=>!(y.d == some i))=true/\s.get i=s0.get i/\es0=es/\(s.put (some x) (.sl es (.r n sz))).ev y=s.ev y/\ze P l K (((s.put (some x) (.sl es (.r n sz))).down n).put (some d) p)
def Qd (s:PS):List Nat->List (Nat × PV)
 | []=>[]
 | j::r=>(j,s.get j)::Qd s r
theorem Vi (s:PS):∀ l,Qd s l=l.map fun j=>(j,s.get j)
 | []=>rfl
 | j::r=>by simp [Qd,Vi s r]
theorem zba (s:PS):Qd s []=[]:=rfl
theorem JN (s:PS) (j:Nat) (r:List Nat):Qd s (j::r)=(j,s.get j)::Qd s r:=rfl
theorem cutP.mk {h:List PI} {s0:PS} {n d:Nat} {E:Prop} {p:PV} {F:Prop} (keep:List Nat) (hE:E) (hk:keepOk h n s0 keep) (hl:ze P l K ⟨(d,p)::Qd s0 keep,[]⟩):cutP P h s0 n d E p l K F:=.inl ⟨hE,keep,hk,by rw [<-Vi];exact hl⟩
theorem cutP.full {h:List PI} {s0:PS} {n d i x:Nat} {E:Prop} {p:PV} {y:PO} {es0 es:List (List PV)} {sz:Nat} (h1:(h.all fun y=>!(y.d == some i))=true) (h2:s.get i=s0.get i) (h3:es0=es) (h4:(s.put (some x) (.sl es (.r n sz))).ev y=s.ev y) (hl:ze P l K (((s.put (some x) (.sl es (.r n sz))).down n).put (some d) p)) :
 cutP P h s0 n d E p l K (zcV P h s0 d n sz i x es0 es y l K p s):=.inr ⟨h1,h2,h3,h4,hl⟩
theorem keepOk.mk2 {h:List PI} {s0:PS} {n i j:Nat} (h1:(h.all fun y=>!(y.d == some i))=true) (h2:(h.all fun y=>!(y.d == some j))=true) (s1:x4 n (s0.get i)) (s2:x4 n (s0.get j)) (hd:(s0.get i).own=none\/(s0.get i).own≠(s0.get j).own):keepOk h n s0 [i,j]:=by
 refine⟨fun k hk=>?_,by simpa using hd⟩
 simp at hk
 rcases hk with rfl | rfl
 ·exact⟨h1,s1⟩
 ·exact⟨h2,s2⟩
theorem zbG (n:Nat) (x:Value):x4 n (.v x)=True:=rfl
theorem zbF (n m sz:Nat) (es:List (List PV)):x4 n (.sl es (.r m sz))=(m≠n/\qK es/\∀ e ∈ es,e.length=sz):=rfl
theorem zk7 (es:List (List PV)) (n m:Nat):PV.own (.sl es (.r n m))=some n:=rfl
def ziB (P:Program) (h:List PI) (s0:PS) (d i x sz by_:Nat) (y:PO) (es:List (List PV)) (q:PV) (l:List PI) (K:PS->Prop) (s:PS):PV->Prop
 | .sl es0 (.r n sz')=>sz'=sz/\QA q fun es'=>(∀ e ∈ es,e.length=sz)/\(∀ e ∈ es',e.length=sz)/\(es.length+es'.length) * by_<=140737488355328/\es'≠[]/\cutP P h s0 n d (qK es/\qK es') (.sl (es++es') (.r n sz)) l K (zcV P h s0 d n sz i x es0 es y l K (.sl (es++es') (.r n sz)) s)
 | _=>False
def zbp (P:Program) (fr:Prop) (h:List PI) (s0:PS) (d x sz by_:Nat) (y:PO) (q:PV) (l:List PI) (K:PS->Prop) (s:PS):PV->Prop
 | .sl es (.n sz')=>sz'=sz/\zb2 h x=true/\QA q fun es'=>qK es/\qK es'/\(∀ e ∈ es,e.length=sz)/\(∀ e ∈ es',e.length=sz)/\(es.length+es'.length) * by_<=140737488355328/\es'≠[]/\ze P l K ((qI h s0).put (some d) (.sl (es++es') (.r d sz)))
 | .sl es (.p i)=>fr/\zb2 h x=true/\ziB P h s0 d i x sz by_ y es q l K s (s0.get i)
 | _=>ze P (⟨some d,none,.ap (.t x) y sz by_⟩::l) K s
theorem zdB (h:List PI) (s0:PS) (d x sz by_:Nat) (y:PO) (l:List PI):qZ P fr h s0 (⟨some d,none,.ap (.t x) y sz by_⟩::l) K s=zbp P fr h s0 d x sz by_ y (s.ev y) l K s (s.get x):=by
 unfold qZ zbp
 simp only
 cases s.get x<;>rfl
theorem zix (h:List PI) (s0:PS) (d x sz by_ sz':Nat) (y:PO) (q:PV) (l:List PI) (es:List (List PV)):zbp P fr h s0 d x sz by_ y q l K s (.sl es (.n sz'))=(sz'=sz/\zb2 h x=true/\QA q fun es'=>qK es/\qK es'/\(∀ e ∈ es,e.length=sz)/\(∀ e ∈ es',e.length=sz)/\(es.length+es'.length) * by_<=140737488355328/\es'≠[]/\ze P l K ((qI h s0).put (some d) (.sl (es++es') (.r d sz)))):=rfl
theorem ziy (h:List PI) (s0:PS) (d x sz by_ i:Nat) (y:PO) (q:PV) (l:List PI) (es:List (List PV)):zbp P fr h s0 d x sz by_ y q l K s (.sl es (.p i))=(fr/\zb2 h x=true/\ziB P h s0 d i x sz by_ y es q l K s (s0.get i)):=rfl
theorem ziz (h:List PI) (s0:PS) (d x sz by_ n m:Nat) (y:PO) (q:PV) (l:List PI) (es:List (List PV)):zbp P fr h s0 d x sz by_ y q l K s (.sl es (.r n m))=ze P (⟨some d,none,.ap (.t x) y sz by_⟩::l) K s:=rfl
theorem ziA (h:List PI) (s0:PS) (d x sz by_:Nat) (y:PO) (q:PV) (l:List PI) (es:List (List PV)):zbp P fr h s0 d x sz by_ y q l K s (.sl es .z)=ze P (⟨some d,none,.ap (.t x) y sz by_⟩::l) K s:=rfl
theorem ziC (h:List PI) (s0:PS) (d i x sz by_ n sz':Nat) (y:PO) (es es0:List (List PV)) (q:PV) (l:List PI):ziB P h s0 d i x sz by_ y es q l K s (.sl es0 (.r n sz'))=(sz'=sz/\QA q fun es'=>(∀ e ∈ es,e.length=sz)/\(∀ e ∈ es',e.length=sz)/\(es.length+es'.length) * by_<=140737488355328/\es'≠[]/\cutP P h s0 n d (qK es/\qK es') (.sl (es++es') (.r n sz)) l K (zcV P h s0 d n sz i x es0 es y l K (.sl (es++es') (.r n sz)) s)):=rfl
def bCt:Option PV->Prop
 | some _=>True
 | none=>False
theorem zb7 (p:PV):bCt (some p)=True:=Eq.trans rfl rfl
theorem zb6:bCt none=False:=Eq.trans rfl rfl
def K6 (op:BinOp) (k:IntKind) (m n:Int):PV:=match op with
 | .add=>match k with | .i64=>.v (.int .i64 (m+n)) | k=>.v (.int k (k.wrap (m+n)))
 | .sub=>match k with | .i64=>.v (.int .i64 (m - n)) | k=>.v (.int k (k.wrap (m - n)))
 | .mul=>match k with | .i64=>.v (.int .i64 (m * n)) | k=>.v (.int k (k.wrap (m * n)))
 | .quo=>match k with | .i64=>.v (.int .i64 (m.tdiv n)) | k=>.v (.int k (k.wrap (m.tdiv n)))
 | .rem=>.v (.int k (m.tmod n))
 | .eql=>.v (.bool (decide (m=n)))
 | .neq=>.v (.bool (!decide (m=n)))
 | .lss=>.v (.bool (decide (m<n)))
 | .leq=>.v (.bool (decide (m<=n)))
 | .gtr=>.v (.bool (decide (n<m)))
 | .geq=>.v (.bool (decide (n<=m)))
 | .shr=>.v (.int k (zgm k m n))
 | _=>.und
def rng (k:IntKind) (n:Int):Prop:=match k with
 | .i64 => -9223372036854775808<=n/\n<9223372036854775808
 | _=>True
def zft (op:BinOp) (k:IntKind) (m n:Int):Prop:=match op with
 | .add=>rng k (m+n)
 | .sub=>rng k (m - n)
 | .mul=>rng k (m * n)
 | .quo=>n≠0/\rng k (m.tdiv n)
 | .rem=>n≠0
 | .shr=>0<=n
 | .eql | .neq | .lss | .leq | .gtr | .geq=>True
 | _=>False
def zaH (op:BinOp) (p q:PV):Prop:=match p,q with
 | .v (.int k a),.v (.int k' b)=>k=k'/\zft op k a b
 | _,_=>False
def Jj (op:BinOp) (p q:PV):PV:=match p,q with
 | .v (.int k a),.v (.int _ b)=>K6 op k a b
 | _,_=>.und
theorem zgg {k:IntKind} {n:Int} {K:PV->Prop}:qar k n K=(rng k n/\K (match k with | .i64=>.v (.int .i64 n) | k=>.v (.int k (k.wrap n)))):=by
 cases k<;>simp [qar,rng]
theorem zdW {op:BinOp} {p q:PV} {K:PV->Prop}:QB op p q K=(zaH op p q/\K (Jj op p q)):=by
 unfold QB zaH Jj
 split
 ·rename_i k a k' b
  by_cases e:k=k'
  ·subst e
   cases op<;>simp [Xo,zft,K6,zgg,and_assoc]
  ·simp [e]
 ·simp
def qY:PV->Prop
 | .v (.bool _)=>True
 | _=>False
def bV:PV->Bool
 | .v (.bool c)=>c
 | _=>false
theorem xD {p:PV} {K:Bool->Prop}:qV p K=(qY p/\K (bV p)):=by
 unfold qV qY bV
 split<;>simp
def qb:PV->Prop
 | .v (.int _ _)=>True
 | _=>False
def iK:PV->IntKind
 | .v (.int k _)=>k
 | _=>.i64
def iV:PV->Int
 | .v (.int _ n)=>n
 | _=>0
theorem xF {p:PV} {K:IntKind->Int->Prop}:vR p K=(qb p/\K (iK p) (iV p)):=by
 unfold vR qb iK iV
 split<;>simp
def yq:PV->Prop
 | .sl _ _=>True
 | _=>False
def eV:PV->List (List PV)
 | .sl es _=>es
 | _=>[]
theorem jo {p:PV} {K:List (List PV)->Prop}:QA p K=(yq p/\K (eV p)):=by
 unfold QA yq eV
 split<;>simp
theorem zh1 (c:Bool):qY (.v (.bool c))=True:=Eq.trans rfl rfl
theorem zmi (c:Bool):bV (.v (.bool c))=c:=Eq.trans rfl rfl
theorem zfz (k:IntKind) (n:Int):qb (.v (.int k n))=True:=Eq.trans rfl rfl
theorem zmQ (k:IntKind) (n:Int):iK (.v (.int k n))=k:=Eq.trans rfl rfl
theorem zmR (k:IntKind) (n:Int):iV (.v (.int k n))=n:=Eq.trans rfl rfl
theorem zh7 (es:List (List PV)) (o:Ow):yq (.sl es o)=True:=Eq.trans rfl rfl
theorem zmm (es:List (List PV)) (o:Ow):eV (.sl es o)=es:=Eq.trans rfl rfl
theorem zhk (op:BinOp) (k k':IntKind) (m n:Int):zaH op (.v (.int k m)) (.v (.int k' n))=(k=k'/\zft op k m n):=Eq.trans rfl rfl
theorem zhl (op:BinOp) (k k':IntKind) (m n:Int):Jj op (.v (.int k m)) (.v (.int k' n))=K6 op k m n:=Eq.trans rfl rfl
theorem zlJ (n:Int):rng .u64 n=True:=Eq.trans rfl rfl
def KW:PV->Prop
 | .bx _ _=>True
 | .cp _ _=>True
 | _=>False
def faV (off:Nat):PV->PV
 | .bx i o=>.bx i (o+off)
 | .cp cs o=>.cp cs (o+off)
 | _=>.und
theorem zj1 (i o:Nat):KW (.bx i o)=True:=Eq.trans rfl rfl
theorem zj2 (cs:List PV) (o:Nat):KW (.cp cs o)=True:=Eq.trans rfl rfl
theorem zj3 (n i o:Nat):faV n (.bx i o)=.bx i (o+n):=Eq.trans rfl rfl
theorem zj4 (n:Nat) (cs:List PV) (o:Nat):faV n (.cp cs o)=.cp cs (o+n):=Eq.trans rfl rfl
def Yg (cs:List PV) (o:Nat) (ag:Bool) (n:Nat):Prop:=match ag with
 | true=>o+n<=cs.length
 | false=>cs[o]?.isSome=true
def QT (cs:List PV) (o:Nat) (ag:Bool) (n:Nat):PV:=match ag with
 | true=>.agg ((cs.drop o).take n)
 | false=>cs[o]?.getD .und
theorem Xn {cs:List PV} {o:Nat} {ag:Bool} {n:Nat} {K:PV->Prop}:VI cs o ag n K=(Yg cs o ag n/\K (QT cs o ag n)):=by
 cases ag
 ·simp only [VI,Yg,QT];cases cs[o]?<;>simp
 ·simp [VI,Yg,QT]
theorem zjA (cs:List PV) (o n:Nat):Yg cs o true n=(o+n<=cs.length):=Eq.trans rfl rfl
theorem zjz (cs:List PV) (o n:Nat):Yg cs o false n=(cs[o]?.isSome=true):=Eq.trans rfl rfl
theorem zjC (cs:List PV) (o n:Nat):QT cs o true n=.agg ((cs.drop o).take n):=Eq.trans rfl rfl
theorem zjB (cs:List PV) (o n:Nat):QT cs o false n=cs[o]?.getD .und:=Eq.trans rfl rfl
def ldC (bs:List (List PV)) (p:PV) (ag:Bool) (n:Nat):Prop:=match p with
 | .cp cs o=>Yg cs o ag n
 | .bx i o=>bs[i]?.isSome=true/\zY (((bs[i]?.getD []).drop o).take n)=true/\Yg (bs[i]?.getD []) o ag n
 | _=>False
def ldF (bs:List (List PV)) (p:PV):Prop:=match p with
 | .cp cs o=>Yg cs o false 1
 | .bx i o=>bs[i]?.isSome=true/\Yg (bs[i]?.getD []) o false 1
 | _=>False
theorem zkL (bs:List (List PV)) (cs:List PV) (o:Nat):ldF bs (.cp cs o)=Yg cs o false 1:=Eq.trans rfl rfl
theorem zkK (bs:List (List PV)) (i o:Nat):ldF bs (.bx i o)=(bs[i]?.isSome=true/\Yg (bs[i]?.getD []) o false 1):=Eq.trans rfl rfl
def ldV (bs:List (List PV)) (p:PV) (ag:Bool) (n:Nat):PV:=match p with
 | .cp cs o=>QT cs o ag n
 | .bx i o=>QT (bs[i]?.getD []) o ag n
 | _=>.und
theorem zkI (bs:List (List PV)) (cs:List PV) (o:Nat) (ag:Bool) (n:Nat):ldC bs (.cp cs o) ag n=Yg cs o ag n:=Eq.trans rfl rfl
theorem zkH (bs:List (List PV)) (i o n:Nat) (ag:Bool):ldC bs (.bx i o) ag n=(bs[i]?.isSome=true/\zY (((bs[i]?.getD []).drop o).take n)=true/\Yg (bs[i]?.getD []) o ag n):=Eq.trans rfl rfl
theorem zkN (bs:List (List PV)) (cs:List PV) (o:Nat) (ag:Bool) (n:Nat):ldV bs (.cp cs o) ag n=QT cs o ag n:=Eq.trans rfl rfl
theorem zkM (bs:List (List PV)) (i o:Nat) (ag:Bool) (n:Nat):ldV bs (.bx i o) ag n=QT (bs[i]?.getD []) o ag n:=Eq.trans rfl rfl
def qv:PV->Prop
 | .agg _=>True
 | .v x=>x.oneCell'=true
 | .sl _ _=>True
 | .cp _ _=>True
 | .bx _ _=>True
 | .fn _ _ _=>True
 | .ifc _ _=>True
 | _=>False
def ql:PV->List PV
 | .agg cs=>cs
 | p=>[p]
theorem xX {p:PV} {K:List PV->Prop}:qW p K=(qv p/\K (ql p)):=by
 cases p<;>simp [qW,qv,ql]
theorem Jn (cs:List PV):qv (.agg cs)=True:=Eq.trans rfl rfl
theorem zcf (k:IntKind) (n:Int):qv (.v (.int k n))=True:=by simp [qv,Value.oneCell']
theorem zce (c:Bool):qv (.v (.bool c))=True:=by simp [qv,Value.oneCell']
theorem Jp:qv (.v .nilIface)=True:=by simp [qv,Value.oneCell']
theorem zcg (es:List (List PV)) (o:Ow):qv (.sl es o)=True:=Eq.trans rfl rfl
theorem zaL (i o:Nat):qv (.bx i o)=True:=Eq.trans rfl rfl
theorem zaM (f:Fn) (x y:List PV):qv (.fn f x y)=True:=Eq.trans rfl rfl
theorem Jo (t:TypeId) (x:PV):qv (.ifc t x)=True:=Eq.trans rfl rfl
theorem Jq (cs:List PV):ql (.agg cs)=cs:=Eq.trans rfl rfl
theorem zci (x:Value):ql (.v x)=[.v x]:=Eq.trans rfl rfl
theorem zch (es:List (List PV)) (o:Ow):ql (.sl es o)=[.sl es o]:=Eq.trans rfl rfl
theorem zaN (i o:Nat):ql (.bx i o)=[.bx i o]:=Eq.trans rfl rfl
theorem zaO (f:Fn) (x y:List PV):ql (.fn f x y)=[.fn f x y]:=Eq.trans rfl rfl
theorem Jr (t:TypeId) (x:PV):ql (.ifc t x)=[.ifc t x]:=Eq.trans rfl rfl
def vM (s:PS):List (Nat × Nat × PO)->List PV->Prop
 | [],_=>True
 | (off,n,x)::r,zs=>qv (s.ev x)/\(ql (s.ev x)).length=n/\off+n<=zs.length/\zY (ql (s.ev x))=true/\vM s r (XI zs ((ql (s.ev x)).map PV.sh) off)
def xV (s:PS):List (Nat × Nat × PO)->List PV->List PV
 | [],zs=>zs
 | (off,_,x)::r,zs=>xV s r (XI zs ((ql (s.ev x)).map PV.sh) off)
theorem Qz {K:List PV->Prop}:∀(ps:List (Nat × Nat × PO)) (zs:List PV),vS s ps zs K=(vM s ps zs/\K (xV s ps zs))
 | [],zs=>by simp [vS,vM,xV]
 | (off,n,x)::r,zs=>by simp [vS,vM,xV,xX,Qz r,and_assoc]
def vr (s:PS) (sz:Nat):List PO->Prop
 | []=>True
 | x::r=>qv (s.ev x)/\(ql (s.ev x)).length=sz/\zY (ql (s.ev x))=true/\vr s sz r
def xP (s:PS):List PO->List (List PV)
 | []=>[]
 | x::r=>(ql (s.ev x)).map PV.sh::xP s r
theorem j5 {sz:Nat}:∀(ps:List PO) (K:List (List PV)->Prop),yP s sz ps K=(vr s sz ps/\K (xP s ps))
 | [],K=>by simp [yP,vr,xP]
 | x::r,K=>by simp [yP,vr,xP,xX,j5 r,and_assoc]
def bdC (s:PS):Option PO->Prop
 | none=>True
 | some y=>qb (s.ev y)/\0<=iV (s.ev y)
def KE (s:PS) (n:Nat):Option PO->Nat
 | none=>n
 | some y=>(iV (s.ev y)).toNat
theorem zas {y:Option PO} {n:Nat} {K:Nat->Prop}:qBd s y n K=(bdC s y/\K (KE s n y)):=by
 cases y<;>simp [qBd,bdC,KE,xF,and_assoc]
def callP (P:Program) (f:FuncId) (xs:List PV) (K:PS->Prop) (d:Option Nat) (s:PS):Prop:=∃ r,Cn P f xs r/\zY xs=true/\K (s.put d r)
def callQ (P:Program) (f:FuncId) (xs:List PV) (K:PS->Prop) (d:Option Nat) (s:PS):Prop:=∃ r,Cn P f xs r/\zY xs=true/\K (s.put d r.strip)
def callO (P:Program) (f:FuncId) (es:List (List PV)) (n sz:Nat) (xs:List PV) (K:PS->Prop) (d:Option Nat) (s:PS):Prop:=callP P f (.sl es .sh::xs) K d s\/∃ rs,OCn P f es sz xs rs/\zY xs=true/\K ((s.down n).put d (.sl rs (.r n sz)))
theorem callP.mk {f:FuncId} {xs:List PV} {r:PV} (h:Cn P f xs r) (hd:zY xs=true) (hk:K (s.put d r)):callP P f xs K d s:=⟨r,h,hd,hk⟩
theorem callQ.mk {f:FuncId} {xs:List PV} {r:PV} (h:Cn P f xs r) (hd:zY xs=true) (hk:K (s.put d r.strip)):callQ P f xs K d s:=⟨r,h,hd,hk⟩
theorem callO.mk {f:FuncId} {es rs:List (List PV)} {n sz:Nat} {xs:List PV} (h:OCn P f es sz xs rs) (hd:zY xs=true) (hk:K ((s.down n).put d (.sl rs (.r n sz)))):callO P f es n sz xs K d s:=.inr ⟨rs,h,hd,hk⟩
theorem callO.rd {f:FuncId} {es:List (List PV)} {n sz:Nat} {xs:List PV} {r:PV} (h:Cn P f (.sl es .sh::xs) r) (hd:zY xs=true) (hk:K (s.put d r)):callO P f es n sz xs K d s:=.inl ⟨r,h,by simpa [zY,PV.isD] using hd,hk⟩
def kQ (s:PS) (xs:List PO):List PV:=xs.map fun x=>(s.ev x).sh
theorem zfg:kQ s []=[]:=Eq.trans rfl rfl
theorem zcQ (x:PO) (xs:List PO):kQ s (x::xs)=(s.ev x).sh::kQ s xs:=Eq.trans rfl rfl
def caD (P:Program) (f:FuncId) (p:PV) (xs:List PV) (K:PS->Prop) (d:Option Nat) (s:PS):Prop:=match p with
 | .sl es (.r n sz)=>callO P f es n sz xs K d s
 | p=>callP P f (p.sh::xs) K d s
def brP (c:PV) (X Y:PS->Prop) (s:PS):Prop:=qY c/\if bV c=true then X s else Y s
theorem zlb (c:PO) (x y:PC):pW P nt fr (.cd c x y) Q s=brP (s.ev c) (pW P nt fr x Q) (pW P nt fr y Q) s:=by
 show qV _ _=_
 rw [xD]
 unfold brP
 cases bV (s.ev c)<;>simp
theorem zgL (X Y:PS->Prop):brP (.v (.bool true)) X Y s=X s:=by simp [brP,qY,bV]
theorem zgK (X Y:PS->Prop):brP (.v (.bool false)) X Y s=Y s:=by simp [brP,qY,bV]
theorem brP.mk {c:Bool} {X Y:PS->Prop} (h1:c=true->X s) (h2:c=false->Y s):brP (.v (.bool c)) X Y s:=by
 refine⟨trivial,?_⟩
 cases c
 ·exact h2 rfl
 ·exact h1 rfl
theorem brP.yes {c:Bool} {X Y:PS->Prop} (h:c=true) (h1:X s):brP (.v (.bool c)) X Y s:=by subst h;rw [zgL];exact h1
theorem brP.no {c:Bool} {X Y:PS->Prop} (h:c=false) (h1:Y s):brP (.v (.bool c)) X Y s:=by subst h;rw [zgK];exact h1
def okG:PV->Prop
 | .v (.bool _)=>True
 | .v (.tuple vs)=>vs=#[]
 | _=>False
def wq (p:PV) (b:Bool):Prop:=match p with
 | .v (.bool c)=>c=b
 | _=>False
instance (p:PV) (b:Bool):Decidable (wq p b):=by unfold wq;split<;>infer_instance
def noS (s:PS) (i:Nat) (b:Bool):PV->PS
 | .v (.bool _)=>s.put (some i) (.v (.bool !b))
 | _=>s
theorem zk1 (c:Bool):okG (.v (.bool c))=True:=Eq.trans rfl rfl
theorem zk2:okG (.v undef)=True:=by simp [okG,undef]
theorem znH (c b:Bool):wq (.v (.bool c)) b=(c=b):=Eq.trans rfl rfl
theorem znI (b:Bool):wq (.v undef) b=False:=by simp [wq,undef]
theorem zkY (i:Nat) (b c:Bool):noS s i b (.v (.bool c))=s.put (some i) (.v (.bool !b)):=Eq.trans rfl rfl
theorem zkZ (i:Nat) (b:Bool):noS s i b (.v undef)=s:=Eq.trans rfl rfl
theorem Ys {i:Nat} {b:Bool} {k:PK} {yes no:PS->Prop}:PI.guard ⟨d,some (i,b),k⟩ s yes no=(okG (s.get i)/\if wq (s.get i) b then yes (s.put (some i) (.v (.bool b))) else no (noS s i b (s.get i))):=by
 unfold PI.guard
 simp only
 cases h:s.get i with
 | v x=>
   cases x<;>try (simp [okG];done)
   ·rename_i c
    simp only [okG,wq,noS,true_and]
    cases c<;>cases b<;>simp
   ·simp [okG,wq,noS]
 | _=>simp [okG]
def gdP (g:PV) (i:Nat) (b:Bool) (d:Option Nat) (X Y:PS->Prop) (s:PS):Prop:=okG g/\if wq g b then X (s.put (some i) (.v (.bool b))) else Y ((noS s i b g).put d (.v undef))
theorem J3 (i:Nat) (b:Bool) (k:PK):ze P (⟨d,some (i,b),k⟩::l) K s=gdP (s.get i) i b d (ze P (⟨d,none,k⟩::l) K) (ze P l K) s:=Ys
theorem J2 (i:Nat) (b:Bool) (k:PK):zf P (⟨d,some (i,b),k⟩::l) K s=gdP (s.get i) i b d (zf P (⟨d,none,k⟩::l) K) (zf P l K) s:=Ys
theorem zhO (i:Nat) (X Y:PS->Prop):gdP (.v (.bool true)) i true d X Y s=X (s.put (some i) (.v (.bool true))):=by simp [gdP,okG,wq]
theorem zhL (i:Nat) (X Y:PS->Prop):gdP (.v (.bool false)) i false d X Y s=X (s.put (some i) (.v (.bool false))):=by simp [gdP,okG,wq]
theorem zhN (i:Nat) (X Y:PS->Prop):gdP (.v (.bool true)) i false d X Y s=Y ((s.put (some i) (.v (.bool true))).put d (.v undef)):=by simp [gdP,okG,wq,noS]
theorem zhM (i:Nat) (X Y:PS->Prop):gdP (.v (.bool false)) i true d X Y s=Y ((s.put (some i) (.v (.bool false))).put d (.v undef)):=by simp [gdP,okG,wq,noS]
theorem zkc (i:Nat) (b:Bool) (X Y:PS->Prop):gdP (.v undef) i b d X Y s=Y (s.put d (.v undef)):=by simp [gdP,okG,wq,noS,undef]
theorem gdP.mkt {c:Bool} {i:Nat} {X Y:PS->Prop} (h1:c=true->X (s.put (some i) (.v (.bool true)))) (h2:c=false->Y ((s.put (some i) (.v (.bool false))).put d (.v undef))):gdP (.v (.bool c)) i true d X Y s:=by
 refine⟨trivial,?_⟩
 cases c<;>simp [wq,noS]<;>first | exact h1 rfl | exact h2 rfl
theorem gdP.mkf {c:Bool} {i:Nat} {X Y:PS->Prop} (h1:c=true->Y ((s.put (some i) (.v (.bool true))).put d (.v undef))) (h2:c=false->X (s.put (some i) (.v (.bool false)))):gdP (.v (.bool c)) i false d X Y s:=by
 refine⟨trivial,?_⟩
 cases c<;>simp [wq,noS]<;>first | exact h1 rfl | exact h2 rfl
theorem zdP (op:BinOp) (x y:PO) {Kv:PV->Prop}:PK.q P s (.bin op x y) Kv=(zaH op (s.ev x) (s.ev y)/\Kv (Jj op (s.ev x) (s.ev y))):=by
 simp only [PK.q,zdW]
theorem zdO (n:Bool) (x y:PO) {Kv:PV->Prop}:PK.q P s (.beq n x y) Kv=((qY (s.ev x)/\qY (s.ev y))/\Kv (.v (.bool (n != (bV (s.ev x) == bV (s.ev y)))))):=by
 simp only [PK.q,xD,and_assoc]
theorem zdU (x:PO) {Kv:PV->Prop}:PK.q P s (.not x) Kv=(qY (s.ev x)/\Kv (.v (.bool (!bV (s.ev x))))):=by
 simp only [PK.q,xD]
theorem zg6 (k:IntKind) (x:PO) {Kv:PV->Prop}:PK.q P s (.cv k x) Kv=(qb (s.ev x)/\Kv (.v (.int k (k.wrap (iV (s.ev x)))))):=by
 simp only [PK.q,xF]
theorem zg8 (x:PO) (o:Nat) {Kv:PV->Prop}:PK.q P s (.fa x o) Kv=(KW (s.ev x)/\Kv (faV o (s.ev x))):=by
 simp only [PK.q]
 cases s.ev x<;>simp [KW,faV]
theorem zha (x y:PO) (n:Nat) {Kv:PV->Prop}:PK.q P s (.ia x y n) Kv=((yq (s.ev x)/\qb (s.ev y)/\0<=iV (s.ev y)/\(eV (s.ev x))[(iV (s.ev y)).toNat]?.map List.length=some n)/\Kv (.cp ((eV (s.ev x))[(iV (s.ev y)).toNat]?.getD []) 0)):=by
 simp only [PK.q,jo,xF,and_assoc]
 cases h:(eV (s.ev x))[(iV (s.ev y)).toNat]?<;>simp [h]
theorem zdR (x:PO) (ag:Bool) (n:Nat) {Kv:PV->Prop}:PK.q P s (.ld x ag n) Kv=(ldC s.b (s.ev x) ag n/\Kv ((ldV s.b (s.ev x) ag n).strip)):=by
 simp only [PK.q]
 cases s.ev x<;>simp only [ldC,ldV,Xn,false_and]
 rename_i i o
 cases s.b[i]?<;>simp [and_assoc]
theorem zhc (x:PO) {Kv:PV->Prop}:PK.q P s (.ln x) Kv=(yq (s.ev x)/\Kv (.v (.int .i64 (eV (s.ev x)).length))):=by
 simp only [PK.q,jo]
theorem zg5 (zs:List PV) (ps:List (Nat × Nat × PO)) {Kv:PV->Prop}:PK.q P s (.bd zs ps) Kv=(vM s ps zs/\Kv (.agg (xV s ps zs))):=by
 simp only [PK.q,Qz]
theorem zlw (n:Nat) (ps:List PO) {Kv:PV->Prop}:PK.q P s (.bs n ps) Kv=(vr s n ps/\Kv (.sl (xP s ps) .z)):=by
 simp only [PK.q,j5]
theorem zkA (op:BinOp) (x y:PO):ze P (⟨d,none,.bin op x y⟩::l) K s=(zaH op (s.ev x) (s.ev y)/\ze P l K (s.put d (Jj op (s.ev x) (s.ev y)))):=zdP (P:=P) (s:=s) op x y (Kv:=fun p=>ze P l K (s.put d p))
theorem zke (op:BinOp) (x y:PO):zf P (⟨d,none,.bin op x y⟩::l) K s=(zaH op (s.ev x) (s.ev y)/\PV.own (Jj op (s.ev x) (s.ev y))=none/\zf P l K (s.put d (Jj op (s.ev x) (s.ev y)))):=zdP (P:=P) (s:=s) op x y (Kv:=fun p=>p.own=none/\zf P l K (s.put d p))
theorem zkz (n:Bool) (x y:PO):ze P (⟨d,none,.beq n x y⟩::l) K s=((qY (s.ev x)/\qY (s.ev y))/\ze P l K (s.put d (.v (.bool (n != (bV (s.ev x) == bV (s.ev y))))))):=zdO (P:=P) (s:=s) n x y (Kv:=fun p=>ze P l K (s.put d p))
theorem zkd (n:Bool) (x y:PO):zf P (⟨d,none,.beq n x y⟩::l) K s=((qY (s.ev x)/\qY (s.ev y))/\PV.own (.v (.bool (n != (bV (s.ev x) == bV (s.ev y)))))=none/\zf P l K (s.put d (.v (.bool (n != (bV (s.ev x) == bV (s.ev y))))))):=zdO (P:=P) (s:=s) n x y (Kv:=fun p=>p.own=none/\zf P l K (s.put d p))
theorem zkG (x:PO):ze P (⟨d,none,.not x⟩::l) K s=(qY (s.ev x)/\ze P l K (s.put d (.v (.bool (!bV (s.ev x)))))):=zdU (P:=P) (s:=s) x (Kv:=fun p=>ze P l K (s.put d p))
theorem zki (x:PO):zf P (⟨d,none,.not x⟩::l) K s=(qY (s.ev x)/\PV.own (.v (.bool (!bV (s.ev x))))=none/\zf P l K (s.put d (.v (.bool (!bV (s.ev x)))))):=zdU (P:=P) (s:=s) x (Kv:=fun p=>p.own=none/\zf P l K (s.put d p))
theorem zm2 (k:IntKind) (x:PO):ze P (⟨d,none,.cv k x⟩::l) K s=(qb (s.ev x)/\ze P l K (s.put d (.v (.int k (k.wrap (iV (s.ev x))))))):=zg6 (P:=P) (s:=s) k x (Kv:=fun p=>ze P l K (s.put d p))
theorem zmD (k:IntKind) (x:PO):zf P (⟨d,none,.cv k x⟩::l) K s=(qb (s.ev x)/\PV.own (.v (.int k (k.wrap (iV (s.ev x)))))=none/\zf P l K (s.put d (.v (.int k (k.wrap (iV (s.ev x))))))):=zg6 (P:=P) (s:=s) k x (Kv:=fun p=>p.own=none/\zf P l K (s.put d p))
theorem zm3 (x:PO) (o:Nat):ze P (⟨d,none,.fa x o⟩::l) K s=(KW (s.ev x)/\ze P l K (s.put d (faV o (s.ev x)))):=zg8 (P:=P) (s:=s) x o (Kv:=fun p=>ze P l K (s.put d p))
theorem zmE (x:PO) (o:Nat):zf P (⟨d,none,.fa x o⟩::l) K s=(KW (s.ev x)/\PV.own (faV o (s.ev x))=none/\zf P l K (s.put d (faV o (s.ev x)))):=zg8 (P:=P) (s:=s) x o (Kv:=fun p=>p.own=none/\zf P l K (s.put d p))
theorem zm5 (x y:PO) (n:Nat):ze P (⟨d,none,.ia x y n⟩::l) K s=((yq (s.ev x)/\qb (s.ev y)/\0<=iV (s.ev y)/\(eV (s.ev x))[(iV (s.ev y)).toNat]?.map List.length=some n)/\ze P l K (s.put d (.cp ((eV (s.ev x))[(iV (s.ev y)).toNat]?.getD []) 0))):=zha (P:=P) (s:=s) x y n (Kv:=fun p=>ze P l K (s.put d p))
theorem zmG (x y:PO) (n:Nat):zf P (⟨d,none,.ia x y n⟩::l) K s=((yq (s.ev x)/\qb (s.ev y)/\0<=iV (s.ev y)/\(eV (s.ev x))[(iV (s.ev y)).toNat]?.map List.length=some n)/\PV.own (.cp ((eV (s.ev x))[(iV (s.ev y)).toNat]?.getD []) 0)=none/\zf P l K (s.put d (.cp ((eV (s.ev x))[(iV (s.ev y)).toNat]?.getD []) 0))):=zha (P:=P) (s:=s) x y n (Kv:=fun p=>p.own=none/\zf P l K (s.put d p))
theorem zmI (x:PO) (ag:Bool) (n:Nat):zf P (⟨d,none,.ld x ag n⟩::l) K s=(ldC s.b (s.ev x) ag n/\PV.own ((ldV s.b (s.ev x) ag n).strip)=none/\zf P l K (s.put d ((ldV s.b (s.ev x) ag n).strip))):=zdR (P:=P) (s:=s) x ag n (Kv:=fun p=>p.own=none/\zf P l K (s.put d p))
theorem zm7 (x:PO):ze P (⟨d,none,.ln x⟩::l) K s=(yq (s.ev x)/\ze P l K (s.put d (.v (.int .i64 (eV (s.ev x)).length)))):=zhc (P:=P) (s:=s) x (Kv:=fun p=>ze P l K (s.put d p))
theorem zmJ (x:PO):zf P (⟨d,none,.ln x⟩::l) K s=(yq (s.ev x)/\PV.own (.v (.int .i64 (eV (s.ev x)).length))=none/\zf P l K (s.put d (.v (.int .i64 (eV (s.ev x)).length)))):=zhc (P:=P) (s:=s) x (Kv:=fun p=>p.own=none/\zf P l K (s.put d p))
theorem zmX (zs:List PV) (ps:List (Nat × Nat × PO)):ze P (⟨d,none,.bd zs ps⟩::l) K s=(vM s ps zs/\ze P l K (s.put d (.agg (xV s ps zs)))):=zg5 (P:=P) (s:=s) zs ps (Kv:=fun p=>ze P l K (s.put d p))
theorem zmz (zs:List PV) (ps:List (Nat × Nat × PO)):zf P (⟨d,none,.bd zs ps⟩::l) K s=(vM s ps zs/\PV.own (.agg (xV s ps zs))=none/\zf P l K (s.put d (.agg (xV s ps zs)))):=zg5 (P:=P) (s:=s) zs ps (Kv:=fun p=>p.own=none/\zf P l K (s.put d p))
theorem zmZ (i n:Nat) (ps:List PO):ze P (⟨some i,none,.bs n ps⟩::l) K s=(vr s n ps/\ze P l K (s.put (some i) (.sl (xP s ps) (.r i n)))):=by
 show PK.e P (.bs n ps) (some i) s (ze P l K)=_
 simp only [PK.e,j5]
theorem zmA (n:Nat) (ps:List PO):zf P (⟨d,none,.bs n ps⟩::l) K s=(vr s n ps/\PV.own (.sl (xP s ps) .z)=none/\zf P l K (s.put d (.sl (xP s ps) .z))):=zlw (P:=P) (s:=s) n ps (Kv:=fun p=>p.own=none/\zf P l K (s.put d p))
theorem zkE (x:PO) (n:Nat):ze P (⟨d,none,.ld x true n⟩::l) K s=(ldC s.b (s.ev x) true n/\ze P l K (s.put d (ldV s.b (s.ev x) true n).strip)):=zdR (P:=P) (s:=s) x true n (Kv:=fun p=>ze P l K (s.put d p))
def ldW (bs:List (List PV)) (p:PV):PV:=match p with
 | .cp cs o=>(QT cs o false 1).strip
 | .bx i o=>QT (bs[i]?.getD []) o false 1
 | _=>.und
theorem zkP (bs:List (List PV)) (cs:List PV) (o:Nat):ldW bs (.cp cs o)=(QT cs o false 1).strip:=Eq.trans rfl rfl
theorem zkO (bs:List (List PV)) (i o:Nat):ldW bs (.bx i o)=QT (bs[i]?.getD []) o false 1:=Eq.trans rfl rfl
theorem zkD (x:PO):ze P (⟨d,none,.ld x false 1⟩::l) K s=(ldF s.b (s.ev x)/\ze P l K (s.put d (ldW s.b (s.ev x)))):=by
 show PK.e P (.ld x false 1) d s (ze P l K)=_
 simp only [PK.e]
 split
 ·rename_i i o h
  rw [h]
  simp only [ldF,ldW,Yg,QT]
  cases s.b[i]? with
  | none=>simp
  | some cs=>cases hc:cs[o]?<;>simp [hc]
 ·rename_i h
  rw [zdR]
  cases hx:s.ev x<;>first | rfl | exact absurd hx (h _ _) | (simp [ldC,ldF];done)
theorem zib (i:Nat):ze P (⟨d,none,.mv (.t i)⟩::l) K s=ze P l K (s.put d (s.get i)):=Eq.trans rfl rfl
theorem zh9 (p:PV):ze P (⟨d,none,.mv (.c p)⟩::l) K s=ze P l K (s.put d p.strip):=Eq.trans rfl rfl
theorem zia (f:FuncId):ze P (⟨d,none,.mv (.f f)⟩::l) K s=ze P l K (s.put d (.fn (.func f) [] [])):=Eq.trans rfl rfl
theorem zhR (i:Nat):zf P (⟨d,none,.mv (.t i)⟩::l) K s=(((s.get i).pre i).own=none/\zf P l K (s.put d ((s.get i).pre i))):=Eq.trans rfl rfl
theorem zhP (p:PV):zf P (⟨d,none,.mv (.c p)⟩::l) K s=(p.strip.own=none/\zf P l K (s.put d p.strip)):=Eq.trans rfl rfl
theorem zhQ (f:FuncId):zf P (⟨d,none,.mv (.f f)⟩::l) K s=zf P l K (s.put d (.fn (.func f) [] [])):=by
 show (_=none/\_)=_
 simp only [PS.ev,PV.strip,PV.own,true_and]
def pkP (c:PV) (X Y:PS->Prop) (s:PS):Prop:=qY c/\if bV c=true then X s else Y s
theorem znc (c x y:PO):ze P (⟨d,none,.pk c x y⟩::l) K s=pkP (s.ev c) (fun s'=>ze P l K (s'.put d (s'.ev x).strip)) (fun s'=>ze P l K (s'.put d (s'.ev y).strip)) s:=by
 show qV _ _=_
 rw [xD]
 unfold pkP
 cases bV (s.ev c)<;>simp
theorem zmO (c x y:PO):zf P (⟨d,none,.pk c x y⟩::l) K s=pkP (s.ev c) (fun s'=>zf P l K (s'.put d (s'.ev x).strip)) (fun s'=>zf P l K (s'.put d (s'.ev y).strip)) s:=by
 show qV _ _=_
 rw [xD]
 unfold pkP
 cases bV (s.ev c)<;>simp [PV.strip_own]
theorem zlk (X Y:PS->Prop):pkP (.v (.bool true)) X Y s=X s:=by simp [pkP,qY,bV]
theorem zlj (X Y:PS->Prop):pkP (.v (.bool false)) X Y s=Y s:=by simp [pkP,qY,bV]
theorem pkP.mk {c:Bool} {X Y:PS->Prop} (h1:c=true->X s) (h2:c=false->Y s):pkP (.v (.bool c)) X Y s:=by
 refine⟨trivial,?_⟩
 cases c
 ·exact h2 rfl
 ·exact h1 rfl
def eqC (m:Nat) (p q:PV):Prop:=match p,q with
 | .agg xs,.agg ys=>xs.length=m/\jy xs ys
 | _,_=>False
def eqB (p q:PV):Bool:=match p,q with
 | .agg xs,.agg ys=>xQ xs ys
 | _,_=>false
theorem zjW (m:Nat) (xs ys:List PV):eqC m (.agg xs) (.agg ys)=(xs.length=m/\jy xs ys):=Eq.trans rfl rfl
theorem zjU (xs ys:List PV):eqB (.agg xs) (.agg ys)=xQ xs ys:=Eq.trans rfl rfl
theorem zfd:jy [] []=True:=Eq.trans rfl rfl
theorem zcN (k k':IntKind) (a b:Int) (r r':List PV):jy (.v (.int k a)::r) (.v (.int k' b)::r')=(k=k'/\jy r r'):=by rw [jy]
theorem zfe:xQ [] []=true:=Eq.trans rfl rfl
theorem zcO (k k':IntKind) (a b:Int) (r r':List PV):xQ (.v (.int k a)::r) (.v (.int k' b)::r')=(decide (a=b) && xQ r r'):=by rw [xQ]
theorem zdQ (n:Bool) (x y:PO) (m:Nat) {Kv:PV->Prop}:PK.q P s (.eq2 n x y m) Kv=(eqC m (s.ev x) (s.ev y)/\Kv (.v (.bool (n != eqB (s.ev x) (s.ev y))))):=by
 simp only [PK.q]
 generalize s.ev x=p
 generalize s.ev y=q
 unfold zbz eqC eqB
 cases p<;>cases q<;>simp
def nlC:PV->Prop
 | .v .nilIface=>True
 | .ifc _ _=>True
 | _=>False
def nlB:PV->Bool
 | .v .nilIface=>true
 | _=>false
theorem zkW:nlC (.v .nilIface)=True:=Eq.trans rfl rfl
theorem zkV (t:TypeId) (x:PV):nlC (.ifc t x)=True:=Eq.trans rfl rfl
theorem zkU:nlB (.v .nilIface)=true:=Eq.trans rfl rfl
theorem zkT (t:TypeId) (x:PV):nlB (.ifc t x)=false:=Eq.trans rfl rfl
theorem zdT (n:Bool) (x:PO) {Kv:PV->Prop}:PK.q P s (.nil n x) Kv=(nlC (s.ev x)/\Kv (.v (.bool (n != nlB (s.ev x))))):=by
 simp only [PK.q]
 cases s.ev x<;>simp [nlC,nlB]
 rename_i v
 cases v<;>simp [nlC,nlB]
theorem zhf (x:PO) {Kv:PV->Prop}:PK.q P s (.nc x) Kv=(KW (s.ev x)/\Kv (s.ev x)):=by
 simp only [PK.q]
 cases s.ev x<;>simp [KW]
theorem zhe (m:Bool) (x y:PO) {Kv:PV->Prop}:PK.q P s (.mm m x y) Kv=((qb (s.ev x)/\qb (s.ev y)/\iK (s.ev x)=iK (s.ev y))/\Kv (.v (.int (iK (s.ev x)) (if m then (if iV (s.ev y) > iV (s.ev x) then iV (s.ev y) else iV (s.ev x)) else (if iV (s.ev y)<iV (s.ev x) then iV (s.ev y) else iV (s.ev x)))))):=by
 simp only [PK.q,xF,and_assoc]
theorem zg4 (x y:PO) (n sz:Nat) {Kv:PV->Prop}:PK.q P s (.aa x y n sz) Kv=((qb (s.ev y)/\0<=iV (s.ev y)/\iV (s.ev y)<n/\KW (s.ev x))/\Kv (faV ((iV (s.ev y)).toNat * sz) (s.ev x))):=by
 simp only [PK.q,xF,and_assoc]
 cases s.ev x<;>simp [KW,faV]
def agC:PV->Prop
 | .agg _=>True
 | _=>False
def XL:PV->List PV
 | .agg cs=>cs
 | _=>[]
theorem zjm (cs:List PV):agC (.agg cs)=True:=Eq.trans rfl rfl
theorem zjn (cs:List PV):XL (.agg cs)=cs:=Eq.trans rfl rfl
theorem zhb (x y:PO) (n:Nat) (ag:Bool) (sz:Nat) {Kv:PV->Prop}:PK.q P s (.ix x y n ag sz) Kv=((qb (s.ev y)/\0<=iV (s.ev y)/\iV (s.ev y)<n/\agC (s.ev x)/\Yg (XL (s.ev x)) ((iV (s.ev y)).toNat * sz) ag sz)/\Kv (QT (XL (s.ev x)) ((iV (s.ev y)).toNat * sz) ag sz).strip):=by
 simp only [PK.q,xF,and_assoc]
 cases s.ev x<;>simp [agC,XL,Xn,and_assoc]
theorem zg9 (x:PO) (o:Nat) (ag:Bool) (n:Nat) {Kv:PV->Prop}:PK.q P s (.fl x o ag n) Kv=((agC (s.ev x)/\Yg (XL (s.ev x)) o ag n)/\Kv (QT (XL (s.ev x)) o ag n).strip):=by
 simp only [PK.q]
 cases s.ev x<;>simp [agC,XL,Xn]
def ka (ps:List PV):Bool:=ps.all fun p=>p.isD || p.isB
theorem zfL:ka []=true:=Eq.trans rfl rfl
theorem zdl (p:PV) (l:List PV):ka (p::l)=((p.isD || p.isB) && ka l):=Eq.trans rfl rfl
theorem zkl (x:Value):PV.isB (.v x)=false:=Eq.trans rfl rfl
theorem zhZ (es:List (List PV)) (o:Ow):PV.isB (.sl es o)=false:=Eq.trans rfl rfl
theorem zfu (cs:List PV):PV.isB (.agg cs)=false:=Eq.trans rfl rfl
theorem zhW (i o:Nat):PV.isB (.bx i o)=true:=Eq.trans rfl rfl
theorem zhX (cs:List PV) (o:Nat):PV.isB (.cp cs o)=false:=Eq.trans rfl rfl
theorem zhY (f:Fn) (x y:List PV):PV.isB (.fn f x y)=false:=Eq.trans rfl rfl
theorem zfv (t:TypeId) (x:PV):PV.isB (.ifc t x)=false:=Eq.trans rfl rfl
theorem zh2 (i o:Nat):PV.isD (.bx i o)=false:=Eq.trans rfl rfl
theorem zh4 (f:Fn) (x y:List PV):PV.isD (.fn f x y)=(x.all (fun p=>!p.isB) && y.all (fun p=>!p.isB)):=Eq.trans rfl rfl
theorem zdS (f:Fn) (fs cs:List PO) {Kv:PV->Prop}:PK.q P s (.mf f fs cs) Kv=((ka (kQ s fs) && ka (kQ s cs))=true/\Kv (.fn f (kQ s fs) (kQ s cs))):=by
 simp only [PK.q,ka,kQ,List.all_map]
 rfl
theorem zhd (t:TypeId) (x:PO) {Kv:PV->Prop}:PK.q P s (.mi t x) Kv=((s.ev x).isD=true/\Kv (.ifc t (s.ev x).sh)):=by
 simp only [PK.q]
 cases (s.ev x).isD<;>simp
def clP (P:Program) (p:PV) (xs:List PV) (K:PS->Prop) (d:Option Nat) (s:PS):Prop:=match p with
 | .fn (.func f) fs cs=>callQ P f (fs++xs++cs) K d s
 | _=>False
theorem zjL (f:FuncId) (fs cs xs:List PV):clP P (.fn (.func f) fs cs) xs K d s=callQ P f (fs++xs++cs) K d s:=Eq.trans rfl rfl
theorem zm1 (y:PO) (xs:List PO):ze P (⟨d,none,.cl y xs⟩::l) K s=clP P (s.ev y) (kQ s xs) (ze P l K) d s:=by
 show PK.q P s (.cl y xs) (fun p=>ze P l K (s.put d p))=_
 simp only [PK.q]
 cases s.ev y<;>rfl
theorem zmC (y:PO) (xs:List PO):zf P (⟨d,none,.cl y xs⟩::l) K s=clP P (s.ev y) (kQ s xs) (zf P l K) d s:=by
 show PK.q P s (.cl y xs) (fun p=>p.own=none/\zf P l K (s.put d p))=_
 simp only [PK.q,PV.strip_own,true_and]
 cases s.ev y<;>rfl
def ivQ (P:Program) (t:TypeId) (m:String) (xs:List PV) (K:PS->Prop) (d:Option Nat) (s:PS):Prop:=∃ f,Mth P t m f/\callQ P f xs K d s
def ivP (P:Program) (p:PV) (m:String) (xs:List PV) (K:PS->Prop) (d:Option Nat) (s:PS):Prop:=match p with
 | .ifc t p=>ivQ P t m (p.sh::xs) K d s
 | _=>False
theorem zpr (t:TypeId) (p:PV) (m:String) (xs:List PV):ivP P (.ifc t p) m xs K d s=ivQ P t m (p.sh::xs) K d s:=Eq.trans rfl rfl
theorem ivQ.mk {t:TypeId} {m:String} {xs:List PV} {f:FuncId} (hm:Mth P t m f) (h:callQ P f xs K d s):ivQ P t m xs K d s:=⟨f,hm,h⟩
theorem zpS (y:PO) (m:String) (xs:List PO):ze P (⟨d,none,.iv y m xs⟩::l) K s=ivP P (s.ev y) m (kQ s xs) (ze P l K) d s:=by
 show PK.q P s (.iv y m xs) (fun p=>ze P l K (s.put d p))=_
 simp only [PK.q]
 cases s.ev y<;>rfl
theorem zpO (y:PO) (m:String) (xs:List PO):zf P (⟨d,none,.iv y m xs⟩::l) K s=ivP P (s.ev y) m (kQ s xs) (zf P l K) d s:=by
 show PK.q P s (.iv y m xs) (fun p=>p.own=none/\zf P l K (s.put d p))=_
 simp only [PK.q,PV.strip_own,true_and]
 cases s.ev y<;>rfl
def sbP (op:BinOp) (p q:PV) (K:PV->Prop):Prop:=qsb op p q K
theorem zpv (op:BinOp) (a b:ByteArray) (K:PV->Prop):sbP op (.v (.string a)) (.v (.string b)) K=(a.size+b.size<=9223372036854775807/\K (sbV op a b)):=Eq.trans rfl rfl
theorem zpx (a b:ByteArray):sbV .add a b=.v (.string (a++b)):=Eq.trans rfl rfl
theorem zpy (a b:ByteArray):sbV .eql a b=.v (.bool (a.toList == b.toList)):=Eq.trans rfl rfl
theorem zpz (a b:ByteArray):sbV .neq a b=.v (.bool !(a.toList == b.toList)):=Eq.trans rfl rfl
theorem zpT (op:BinOp) (x y:PO):ze P (⟨d,none,.sb op x y⟩::l) K s=sbP op (s.ev x) (s.ev y) (fun p=>ze P l K (s.put d p)):=Eq.trans rfl rfl
theorem zpP (op:BinOp) (x y:PO):zf P (⟨d,none,.sb op x y⟩::l) K s=sbP op (s.ev x) (s.ev y) (fun p=>p.own=none/\zf P l K (s.put d p)):=Eq.trans rfl rfl
theorem zkB (n:Bool) (x y:PO) (m:Nat):ze P (⟨d,none,.eq2 n x y m⟩::l) K s=(eqC m (s.ev x) (s.ev y)/\ze P l K (s.put d (.v (.bool (n != eqB (s.ev x) (s.ev y)))))):=zdQ (P:=P) (s:=s) n x y m (Kv:=fun p=>ze P l K (s.put d p))
theorem zkf (n:Bool) (x y:PO) (m:Nat):zf P (⟨d,none,.eq2 n x y m⟩::l) K s=(eqC m (s.ev x) (s.ev y)/\PV.own (.v (.bool (n != eqB (s.ev x) (s.ev y))))=none/\zf P l K (s.put d (.v (.bool (n != eqB (s.ev x) (s.ev y)))))):=zdQ (P:=P) (s:=s) n x y m (Kv:=fun p=>p.own=none/\zf P l K (s.put d p))
theorem zkF (n:Bool) (x:PO):ze P (⟨d,none,.nil n x⟩::l) K s=(nlC (s.ev x)/\ze P l K (s.put d (.v (.bool (n != nlB (s.ev x)))))):=zdT (P:=P) (s:=s) n x (Kv:=fun p=>ze P l K (s.put d p))
theorem zkh (n:Bool) (x:PO):zf P (⟨d,none,.nil n x⟩::l) K s=(nlC (s.ev x)/\PV.own (.v (.bool (n != nlB (s.ev x))))=none/\zf P l K (s.put d (.v (.bool (n != nlB (s.ev x)))))):=zdT (P:=P) (s:=s) n x (Kv:=fun p=>p.own=none/\zf P l K (s.put d p))
theorem znb (x:PO):ze P (⟨d,none,.nc x⟩::l) K s=(KW (s.ev x)/\ze P l K (s.put d (s.ev x))):=zhf (P:=P) (s:=s) x (Kv:=fun p=>ze P l K (s.put d p))
theorem zmN (x:PO):zf P (⟨d,none,.nc x⟩::l) K s=(KW (s.ev x)/\PV.own (s.ev x)=none/\zf P l K (s.put d (s.ev x))):=zhf (P:=P) (s:=s) x (Kv:=fun p=>p.own=none/\zf P l K (s.put d p))
theorem zna (m:Bool) (x y:PO):ze P (⟨d,none,.mm m x y⟩::l) K s=((qb (s.ev x)/\qb (s.ev y)/\iK (s.ev x)=iK (s.ev y))/\ze P l K (s.put d (.v (.int (iK (s.ev x)) (if m then (if iV (s.ev y) > iV (s.ev x) then iV (s.ev y) else iV (s.ev x)) else (if iV (s.ev y)<iV (s.ev x) then iV (s.ev y) else iV (s.ev x))))))):=zhe (P:=P) (s:=s) m x y (Kv:=fun p=>ze P l K (s.put d p))
theorem zmM (m:Bool) (x y:PO):zf P (⟨d,none,.mm m x y⟩::l) K s=((qb (s.ev x)/\qb (s.ev y)/\iK (s.ev x)=iK (s.ev y))/\PV.own (.v (.int (iK (s.ev x)) (if m then (if iV (s.ev y) > iV (s.ev x) then iV (s.ev y) else iV (s.ev x)) else (if iV (s.ev y)<iV (s.ev x) then iV (s.ev y) else iV (s.ev x)))))=none/\zf P l K (s.put d (.v (.int (iK (s.ev x)) (if m then (if iV (s.ev y) > iV (s.ev x) then iV (s.ev y) else iV (s.ev x)) else (if iV (s.ev y)<iV (s.ev x) then iV (s.ev y) else iV (s.ev x))))))):=zhe (P:=P) (s:=s) m x y (Kv:=fun p=>p.own=none/\zf P l K (s.put d p))
theorem zmU (x y:PO) (n sz:Nat):ze P (⟨d,none,.aa x y n sz⟩::l) K s=((qb (s.ev y)/\0<=iV (s.ev y)/\iV (s.ev y)<n/\KW (s.ev x))/\ze P l K (s.put d (faV ((iV (s.ev y)).toNat * sz) (s.ev x)))):=zg4 (P:=P) (s:=s) x y n sz (Kv:=fun p=>ze P l K (s.put d p))
theorem zmx (x y:PO) (n sz:Nat):zf P (⟨d,none,.aa x y n sz⟩::l) K s=((qb (s.ev y)/\0<=iV (s.ev y)/\iV (s.ev y)<n/\KW (s.ev x))/\PV.own (faV ((iV (s.ev y)).toNat * sz) (s.ev x))=none/\zf P l K (s.put d (faV ((iV (s.ev y)).toNat * sz) (s.ev x)))):=zg4 (P:=P) (s:=s) x y n sz (Kv:=fun p=>p.own=none/\zf P l K (s.put d p))
theorem zm6 (x y:PO) (n:Nat) (ag:Bool) (sz:Nat):ze P (⟨d,none,.ix x y n ag sz⟩::l) K s=((qb (s.ev y)/\0<=iV (s.ev y)/\iV (s.ev y)<n/\agC (s.ev x)/\Yg (XL (s.ev x)) ((iV (s.ev y)).toNat * sz) ag sz)/\ze P l K (s.put d ((QT (XL (s.ev x)) ((iV (s.ev y)).toNat * sz) ag sz).strip))):=zhb (P:=P) (s:=s) x y n ag sz (Kv:=fun p=>ze P l K (s.put d p))
theorem zmH (x y:PO) (n:Nat) (ag:Bool) (sz:Nat):zf P (⟨d,none,.ix x y n ag sz⟩::l) K s=((qb (s.ev y)/\0<=iV (s.ev y)/\iV (s.ev y)<n/\agC (s.ev x)/\Yg (XL (s.ev x)) ((iV (s.ev y)).toNat * sz) ag sz)/\PV.own ((QT (XL (s.ev x)) ((iV (s.ev y)).toNat * sz) ag sz).strip)=none/\zf P l K (s.put d ((QT (XL (s.ev x)) ((iV (s.ev y)).toNat * sz) ag sz).strip))):=zhb (P:=P) (s:=s) x y n ag sz (Kv:=fun p=>p.own=none/\zf P l K (s.put d p))
theorem zm4 (x:PO) (o:Nat) (ag:Bool) (n:Nat):ze P (⟨d,none,.fl x o ag n⟩::l) K s=((agC (s.ev x)/\Yg (XL (s.ev x)) o ag n)/\ze P l K (s.put d ((QT (XL (s.ev x)) o ag n).strip))):=zg9 (P:=P) (s:=s) x o ag n (Kv:=fun p=>ze P l K (s.put d p))
theorem zmF (x:PO) (o:Nat) (ag:Bool) (n:Nat):zf P (⟨d,none,.fl x o ag n⟩::l) K s=((agC (s.ev x)/\Yg (XL (s.ev x)) o ag n)/\PV.own ((QT (XL (s.ev x)) o ag n).strip)=none/\zf P l K (s.put d ((QT (XL (s.ev x)) o ag n).strip))):=zg9 (P:=P) (s:=s) x o ag n (Kv:=fun p=>p.own=none/\zf P l K (s.put d p))
def mfB (s:PS) (l:List PO):Bool:=l.any fun x=>(s.ev x).isB
theorem zfK:mfB s []=false:=rfl
theorem zdk (x:PO) (l:List PO):mfB s (x::l)=((s.ev x).isB || mfB s l):=rfl
theorem zka:PS.fz ⟨t,b⟩=⟨t.map fun y=>(y.1,y.2.fz b),[]⟩:=rfl
theorem zmv (x:Value):PV.fz b (.v x)=.v x:=rfl
theorem zhG (cs:List PV):PV.fz b (.agg cs)=.agg cs:=rfl
theorem zhJ (cs:List PV):PV.fz b (.tup cs)=.tup cs:=rfl
theorem zkb (es:List (List PV)) (o:Ow):PV.fz b (.sl es o)=.sl es o:=rfl
theorem zj7 (i o:Nat):PV.fz b (.bx i o)=.cp ((b[i]?.getD []).map PV.sh) o:=rfl
theorem zj8 (cs:List PV) (o:Nat):PV.fz b (.cp cs o)=.cp cs o:=rfl
theorem zhH (ty:TypeId) (x:PV):PV.fz b (.ifc ty x)=.ifc ty x:=rfl
theorem zhK:PV.fz b .und=.und:=rfl
theorem zj9 (f:Fn) (fs cs:List PV):PV.fz b (.fn f fs cs)=.fn f (fs.map (PV.fz1 b)) (cs.map (PV.fz1 b)):=rfl
theorem zhE (i o:Nat):PV.fz1 b (.bx i o)=.cp ((b[i]?.getD []).map PV.sh) o:=rfl
theorem zj6 (x:Value):PV.fz1 b (.v x)=.v x:=rfl
theorem zhF (cs:List PV) (o:Nat):PV.fz1 b (.cp cs o)=.cp cs o:=rfl
theorem zm8 (f:Fn) (fs cs:List PO):ze P (⟨d,none,.mf f fs cs⟩::l) K s=if (mfB s fs || mfB s cs)=true then (s.b.all zY=true/\(ka (kQ s.fz fs) && ka (kQ s.fz cs))=true/\ze P l K (s.fz.put d (.fn f (kQ s.fz fs) (kQ s.fz cs)))) else ((ka (kQ s fs) && ka (kQ s cs))=true/\ze P l K (s.put d (.fn f (kQ s fs) (kQ s cs)))):=by
 show PK.e P (.mf f fs cs) d s (ze P l K)=_
 simp only [PK.e,mfB]
 congr 1
 ·rw [zdS (P:=P) (s:=s.fz) f fs cs (Kv:=fun p=>ze P l K (s.fz.put d p))]
 ·exact zdS (P:=P) (s:=s) f fs cs (Kv:=fun p=>ze P l K (s.put d p))
theorem zmK (f:Fn) (fs cs:List PO):zf P (⟨d,none,.mf f fs cs⟩::l) K s=((ka (kQ s fs) && ka (kQ s cs))=true/\PV.own (.fn f (kQ s fs) (kQ s cs))=none/\zf P l K (s.put d (.fn f (kQ s fs) (kQ s cs)))):=zdS (P:=P) (s:=s) f fs cs (Kv:=fun p=>p.own=none/\zf P l K (s.put d p))
theorem zm9 (t:TypeId) (x:PO):ze P (⟨d,none,.mi t x⟩::l) K s=((s.ev x).isD=true/\ze P l K (s.put d (.ifc t (s.ev x).sh))):=zhd (P:=P) (s:=s) t x (Kv:=fun p=>ze P l K (s.put d p))
theorem zmL (t:TypeId) (x:PO):zf P (⟨d,none,.mi t x⟩::l) K s=((s.ev x).isD=true/\PV.own (.ifc t (s.ev x).sh)=none/\zf P l K (s.put d (.ifc t (s.ev x).sh))):=zhd (P:=P) (s:=s) t x (Kv:=fun p=>p.own=none/\zf P l K (s.put d p))
theorem znd (x:PO) (lo hi:Option PO) (n:Nat):ze P (⟨d,none,.sc x lo hi n⟩::l) K s=(yq (s.ev x)/\bdC s hi/\bdC s lo/\KE s 0 lo<=KE s (eV (s.ev x)).length hi/\KE s (eV (s.ev x)).length hi<=(eV (s.ev x)).length/\(∀ e ∈ eV (s.ev x),e.length=n) /\
 ze P l K (s.put d (.sl (((eV (s.ev x)).take (KE s (eV (s.ev x)).length hi)).drop (KE s 0 lo)) .sh))):=by
 show PK.q P s (.sc x lo hi n) (fun p=>ze P l K (s.put d p.strip))=_
 have:∀ es lo p,(PV.sl es (Xw lo p)).strip=.sl es .sh:=fun es lo p=>by unfold Xw;split<;>rfl
 simp only [PK.q,jo,zas,this]
theorem zmP (x:PO) (lo hi:Option PO) (n:Nat):zf P (⟨d,none,.sc x lo hi n⟩::l) K s=(yq (s.ev x)/\bdC s hi/\bdC s lo/\KE s 0 lo<=KE s (eV (s.ev x)).length hi/\KE s (eV (s.ev x)).length hi<=(eV (s.ev x)).length/\(∀ e ∈ eV (s.ev x),e.length=n) /\
 zf P l K (s.put d (.sl (((eV (s.ev x)).take (KE s (eV (s.ev x)).length hi)).drop (KE s 0 lo)) (Xw lo (s.ev x))))):=by
 show PK.q P s (.sc x lo hi n) (fun p=>p.own=none/\zf P l K (s.put d p))=_
 have:∀ es lo p,(PV.sl es (Xw lo p)).own=none:=fun es lo p=>by unfold Xw;split<;>rfl
 simp only [PK.q,jo,zas,this,true_and]
theorem zjD:bdC s none=True:=Eq.trans rfl rfl
theorem zjE (y:PO):bdC s (some y)=(qb (s.ev y)/\0<=iV (s.ev y)):=Eq.trans rfl rfl
theorem zjF (n:Nat):KE s n none=n:=Eq.trans rfl rfl
theorem zjG (n:Nat) (y:PO):KE s n (some y)=(iV (s.ev y)).toNat:=Eq.trans rfl rfl
def zen (p:PV) (i:Nat):Prop:=match p with
 | .tup cs=>cs[i]?.isSome=true
 | _=>False
def tpV (p:PV) (i:Nat):PV:=match p with
 | .tup cs=>(cs[i]?.getD .und).strip
 | _=>.und
theorem zg7 (x:PO) (i:Nat) {Kv:PV->Prop}:PK.q P s (.ex x i) Kv=(zen (s.ev x) i/\Kv (tpV (s.ev x) i)):=by
 simp only [PK.q]
 cases s.ev x<;>simp only [zen,tpV,false_and]
 rename_i cs
 cases cs[i]?<;>simp
theorem zkC (x:PO) (i:Nat):ze P (⟨d,none,.ex x i⟩::l) K s=(zen (s.ev x) i/\ze P l K (s.put d (tpV (s.ev x) i))):=zg7 (P:=P) (s:=s) x i (Kv:=fun p=>ze P l K (s.put d p))
theorem zkg (x:PO) (i:Nat):zf P (⟨d,none,.ex x i⟩::l) K s=(zen (s.ev x) i/\(tpV (s.ev x) i).own=none/\zf P l K (s.put d (tpV (s.ev x) i))):=zg7 (P:=P) (s:=s) x i (Kv:=fun p=>p.own=none/\zf P l K (s.put d p))
theorem zi7 (cs:List PV) (i:Nat):zen (.tup cs) i=(cs[i]?.isSome=true):=Eq.trans rfl rfl
theorem zl2 (cs:List PV) (i:Nat):tpV (.tup cs) i=(cs[i]?.getD .und).strip:=Eq.trans rfl rfl
theorem zmV (zs:List PV):ze P (⟨d,none,.al zs⟩::l) K s=ze P l K (PS.put ⟨s.t,s.b++[zs]⟩ d (.bx s.b.length 0)):=Eq.trans rfl rfl
theorem zmY (x:PO):ze P (⟨d,none,.bo x⟩::l) K s=(qv (s.ev x)/\ze P l K (PS.put ⟨s.t,s.b++[(ql (s.ev x)).map PV.sh]⟩ d (.bx s.b.length 0))):=xX
def stC (bs:List (List PV)) (p q:PV) (n:Nat):Prop:=match p with
 | .bx i o=>bs[i]?.isSome=true/\qv q/\(ql q).length=n/\o+n<=(bs[i]?.getD []).length
 | _=>False
def stB (bs:List (List PV)) (y:PO) (p q:PV):List (List PV):=match p with
 | .bx i o=>bs.set i (XI (bs[i]?.getD []) (yC y q (ql q)) o)
 | _=>bs
theorem zlY (bs:List (List PV)) (i o:Nat) (q:PV) (n:Nat):stC bs (.bx i o) q n=(bs[i]?.isSome=true/\qv q/\(ql q).length=n/\o+n<=(bs[i]?.getD []).length):=Eq.trans rfl rfl
theorem zlX (bs:List (List PV)) (y:PO) (i o:Nat) (q:PV):stB bs y (.bx i o) q=bs.set i (XI (bs[i]?.getD []) (yC y q (ql q)) o):=Eq.trans rfl rfl
theorem zne (x y:PO) (n:Nat):ze P (⟨d,none,.st x y n⟩::l) K s=(stC s.b (s.ev x) (s.ev y) n/\ze P l K (PS.put ⟨s.t,stB s.b y (s.ev x) (s.ev y)⟩ d (.v undef))):=by
 show PK.e P (.st x y n) d s (ze P l K)=_
 simp only [PK.e]
 cases s.ev x<;>simp only [stC,stB,false_and]
 rename_i i o
 cases s.b[i]?<;>simp [xX,and_assoc]
theorem zm0 (f:FuncId) (xs:List PO):ze P (⟨d,none,.ca f xs⟩::l) K s=match xs with
 | .t i::xs'=>caD P f (s.get i) (kQ s xs') (ze P l K) d s
 | xs=>callP P f (kQ s xs) (ze P l K) d s:=by
 show PK.e P (.ca f xs) d s (ze P l K)=_
 simp only [PK.e]
 split
 ·rename_i i xs'
  have e:s.ev (.t i)=s.get i:=rfl
  simp only [List.map_cons,e,caD]
  generalize s.get i=p
  cases p with
  | sl es o=>cases o<;>rfl
  | _=>rfl
 ·rename_i h
  cases xs with
  | nil=>rfl
  | cons x xs=>cases x<;>first | rfl | exact absurd rfl (h _ _)
theorem zjI (f:FuncId) (es:List (List PV)) (n sz:Nat) (xs:List PV):caD P f (.sl es (.r n sz)) xs K d s=callO P f es n sz xs K d s:=Eq.trans rfl rfl
theorem zjJ (f:FuncId) (x:Value) (xs:List PV):caD P f (.v x) xs K d s=callP P f (.v x::xs) K d s:=Eq.trans rfl rfl
theorem zeM (f:FuncId) (cs:List PV) (xs:List PV):caD P f (.agg cs) xs K d s=callP P f (.agg cs::xs) K d s:=Eq.trans rfl rfl
theorem zhp (f:FuncId) (es:List (List PV)) (xs:List PV):caD P f (.sl es .sh) xs K d s=callP P f (.sl es .sh::xs) K d s:=Eq.trans rfl rfl
theorem zjK (f:FuncId) (es:List (List PV)) (xs:List PV):caD P f (.sl es .z) xs K d s=callP P f (.sl es .sh::xs) K d s:=Eq.trans rfl rfl
theorem zeN (f:FuncId) (t:TypeId) (x:PV) (xs:List PV):caD P f (.ifc t x) xs K d s=callP P f (.ifc t x::xs) K d s:=Eq.trans rfl rfl
theorem zho (f:FuncId) (g:Fn) (x y:List PV) (xs:List PV):caD P f (.fn g x y) xs K d s=callP P f (.fn g x y::xs) K d s:=Eq.trans rfl rfl
theorem zmB (f:FuncId) (xs:List PO):zf P (⟨d,none,.ca f xs⟩::l) K s=callQ P f (kQ s xs) (zf P l K) d s:=by
 show (∃ r,_/\_/\(PV.own _=none/\_))=_
 simp only [PV.strip_own,true_and]
 rfl
def apT (P:Program) (p q:PV) (x y:PO) (n m:Nat) (K:PS->Prop) (d:Option Nat) (s:PS):Prop:=match p with
 | .sl es (.r k sz')=>sz'=n/\isT x=true/\yq q/\(∀ e ∈ eV q,e.length=n)/\(es.length+(eV q).length) * m<=140737488355328/\K ((s.down k).put d (.sl (es++eV q) (.r k n)))
 | .sl es .z=>(match d with
   | some d=>yq q/\(∀ e ∈ es,e.length=n)/\(∀ e ∈ eV q,e.length=n)/\(es.length+(eV q).length) * m<=140737488355328/\K (s.put (some d) (.sl (es++eV q) (apO es (eV q) d n)))
   | none=>PK.q P s (.ap x y n m) fun p=>K (s.put d p.strip))
 | _=>False
theorem zmW (x y:PO) (n m:Nat):ze P (⟨d,none,.ap x y n m⟩::l) K s=apT P (s.ev x) (s.ev y) x y n m (ze P l K) d s:=by
 show PK.e P (.ap x y n m) d s (ze P l K)=_
 simp only [PK.e,apT,jo]
 generalize s.ev x=p
 cases p with
 | sl es o=>cases o with
   | z=>cases d<;>rfl
   | r k sz=>rfl
   | _=>rfl
 | _=>rfl
theorem zjt (es:List (List PV)) (k sz':Nat) (q:PV) (x y:PO) (n m:Nat):apT P (.sl es (.r k sz')) q x y n m K d s=(sz'=n/\isT x=true/\yq q/\(∀ e ∈ eV q,e.length=n)/\(es.length+(eV q).length) * m<=140737488355328/\K ((s.down k).put d (.sl (es++eV q) (.r k n)))):=Eq.trans rfl rfl
theorem zju (es:List (List PV)) (q:PV) (x y:PO) (d n m:Nat):apT P (.sl es .z) q x y n m K (some d) s=(yq q/\(∀ e ∈ es,e.length=n)/\(∀ e ∈ eV q,e.length=n)/\(es.length+(eV q).length) * m<=140737488355328/\K (s.put (some d) (.sl (es++eV q) (apO es (eV q) d n)))):=Eq.trans rfl rfl
theorem zjr (es':List (List PV)) (d n:Nat):apO [] es' d n=.r d n:=by cases es'<;>rfl
theorem zjq (es:List (List PV)) (e:List PV) (es':List (List PV)) (d n:Nat):apO es (e::es') d n=.r d n:=by cases es<;>rfl
theorem zjs (e:List PV) (es:List (List PV)) (d n:Nat):apO (e::es) [] d n=.sh:=rfl
def apH (p q:PV) (n m:Nat):Prop:=match p with
 | .sl es .z=>yq q/\(∀ e ∈ es,e.length=n)/\(∀ e ∈ eV q,e.length=n)/\(es.length+(eV q).length) * m<=140737488355328
 | _=>False
theorem zjp (es:List (List PV)) (q:PV) (n m:Nat):apH (.sl es .z) q n m=(yq q/\(∀ e ∈ es,e.length=n)/\(∀ e ∈ eV q,e.length=n)/\(es.length+(eV q).length) * m<=140737488355328):=Eq.trans rfl rfl
theorem zmy (x y:PO) (n m:Nat):zf P (⟨d,none,.ap x y n m⟩::l) K s=(apH (s.ev x) (s.ev y) n m/\zf P l K (s.put d (.sl (eV (s.ev x)++eV (s.ev y)) (.n n)))):=by
 show PK.q P s (.ap x y n m) (fun p=>p.own=none/\zf P l K (s.put d p))=_
 simp only [PK.q,apH,jo]
 cases h:s.ev x<;>try simp
 rename_i es o
 cases o<;>simp [eV,PV.own,and_assoc]
theorem zgr (x:Value):PV.strip (.v x)=.v x:=Eq.trans rfl rfl
theorem zbJ (cs:List PV):PV.strip (.agg cs)=.agg cs:=Eq.trans rfl rfl
theorem zbL (cs:List PV):PV.strip (.tup cs)=.tup cs:=Eq.trans rfl rfl
theorem zef (es:List (List PV)):PV.strip (.sl es .sh)=.sl es .sh:=Eq.trans rfl rfl
theorem zgs (es:List (List PV)):PV.strip (.sl es .z)=.sl es .z:=Eq.trans rfl rfl
theorem zgq (es:List (List PV)) (n m:Nat):PV.strip (.sl es (.r n m))=.sl es .sh:=Eq.trans rfl rfl
theorem zgp (es:List (List PV)) (m:Nat):PV.strip (.sl es (.p m))=.sl es .sh:=Eq.trans rfl rfl
theorem zgo (es:List (List PV)) (m:Nat):PV.strip (.sl es (.n m))=.sl es .sh:=Eq.trans rfl rfl
theorem zec (i o:Nat):PV.strip (.bx i o)=.bx i o:=Eq.trans rfl rfl
theorem zed (cs:List PV) (o:Nat):PV.strip (.cp cs o)=.cp cs o:=Eq.trans rfl rfl
theorem zee (f:Fn) (x y:List PV):PV.strip (.fn f x y)=.fn f x y:=Eq.trans rfl rfl
theorem zbK (t:TypeId) (x:PV):PV.strip (.ifc t x)=.ifc t x:=Eq.trans rfl rfl
theorem znE (x:Value):PV.sh (.v x)=.v x:=Eq.trans rfl rfl
theorem ziU (cs:List PV):PV.sh (.agg cs)=.agg cs:=Eq.trans rfl rfl
theorem ziW (cs:List PV):PV.sh (.tup cs)=.tup cs:=Eq.trans rfl rfl
theorem zlW (es:List (List PV)) (o:Ow):PV.sh (.sl es o)=.sl es .sh:=Eq.trans rfl rfl
theorem zlT (i o:Nat):PV.sh (.bx i o)=.bx i o:=Eq.trans rfl rfl
theorem zlU (cs:List PV) (o:Nat):PV.sh (.cp cs o)=.cp cs o:=Eq.trans rfl rfl
theorem zlV (f:Fn) (x y:List PV):PV.sh (.fn f x y)=.fn f x y:=Eq.trans rfl rfl
theorem ziV (t:TypeId) (x:PV):PV.sh (.ifc t x)=.ifc t x:=Eq.trans rfl rfl
theorem zk8 (x:Value):PV.own (.v x)=none:=Eq.trans rfl rfl
theorem zfW (cs:List PV):PV.own (.agg cs)=none:=Eq.trans rfl rfl
theorem zfY (cs:List PV):PV.own (.tup cs)=none:=Eq.trans rfl rfl
theorem ziw (es:List (List PV)):PV.own (.sl es .sh)=none:=Eq.trans rfl rfl
theorem zk9 (es:List (List PV)):PV.own (.sl es .z)=none:=Eq.trans rfl rfl
theorem zk6 (es:List (List PV)) (m:Nat):PV.own (.sl es (.p m))=none:=Eq.trans rfl rfl
theorem zk5 (es:List (List PV)) (m:Nat):PV.own (.sl es (.n m))=none:=Eq.trans rfl rfl
theorem zit (i o:Nat):PV.own (.bx i o)=none:=Eq.trans rfl rfl
theorem ziu (cs:List PV) (o:Nat):PV.own (.cp cs o)=none:=Eq.trans rfl rfl
theorem ziv (f:Fn) (x y:List PV):PV.own (.fn f x y)=none:=Eq.trans rfl rfl
theorem zfX (t:TypeId) (x:PV):PV.own (.ifc t x)=none:=Eq.trans rfl rfl
theorem zhA (n:Nat) (x:Value):PV.down n (.v x)=.v x:=Eq.trans rfl rfl
theorem zcE (n:Nat) (cs:List PV):PV.down n (.agg cs)=.agg cs:=Eq.trans rfl rfl
theorem zcG (n:Nat) (cs:List PV):PV.down n (.tup cs)=.tup cs:=Eq.trans rfl rfl
theorem zfa (n:Nat) (es:List (List PV)):PV.down n (.sl es .sh)=.sl es .sh:=Eq.trans rfl rfl
theorem zhB (n:Nat) (es:List (List PV)):PV.down n (.sl es .z)=.sl es .z:=Eq.trans rfl rfl
theorem zhy (n m:Nat) (es:List (List PV)):PV.down n (.sl es (.p m))=.sl es (.p m):=Eq.trans rfl rfl
theorem zhx (n m:Nat) (es:List (List PV)):PV.down n (.sl es (.n m))=.sl es (.n m):=Eq.trans rfl rfl
theorem zhz (n m k:Nat) (es:List (List PV)):PV.down n (.sl es (.r m k))=if m=n then .sl es .sh else .sl es (.r m k):=Eq.trans rfl rfl
theorem ze6 (n i o:Nat):PV.down n (.bx i o)=.bx i o:=Eq.trans rfl rfl
theorem ze7 (n:Nat) (cs:List PV) (o:Nat):PV.down n (.cp cs o)=.cp cs o:=Eq.trans rfl rfl
theorem ze8 (n:Nat) (f:Fn) (x y:List PV):PV.down n (.fn f x y)=.fn f x y:=Eq.trans rfl rfl
theorem zcF (n:Nat) (t:TypeId) (x:PV):PV.down n (.ifc t x)=.ifc t x:=Eq.trans rfl rfl
theorem zcH (n:Nat):PV.down n .und=.und:=Eq.trans rfl rfl
theorem zcp:PS.clean ⟨t,b⟩=⟨t.map fun y=>(y.1,y.2.clean),b⟩:=Eq.trans rfl rfl
theorem zeV (x:Value):PV.clean (.v x)=.v x:=Eq.trans rfl rfl
theorem zlo (j:Nat) (x:Value):PV.pre j (.v x)=.v x:=Eq.trans rfl rfl
theorem zaP (cs:List PV):PV.clean (.agg cs)=.agg cs:=Eq.trans rfl rfl
theorem zf7 (j:Nat) (cs:List PV):PV.pre j (.agg cs)=.agg cs:=Eq.trans rfl rfl
theorem zaR (cs:List PV):PV.clean (.tup cs)=.tup cs:=Eq.trans rfl rfl
theorem zga (j:Nat) (cs:List PV):PV.pre j (.tup cs)=.tup cs:=Eq.trans rfl rfl
theorem zcq (es:List (List PV)):PV.clean (.sl es .sh)=.sl es .sh:=Eq.trans rfl rfl
theorem ziI (j:Nat) (es:List (List PV)):PV.pre j (.sl es .sh)=.sl es .sh:=Eq.trans rfl rfl
theorem zeW (es:List (List PV)):PV.clean (.sl es .z)=.sl es .z:=Eq.trans rfl rfl
theorem zlp (j:Nat) (es:List (List PV)):PV.pre j (.sl es .z)=.sl es .z:=Eq.trans rfl rfl
theorem zcm (i o:Nat):PV.clean (.bx i o)=.bx i o:=Eq.trans rfl rfl
theorem ziF (j:Nat) (i o:Nat):PV.pre j (.bx i o)=.bx i o:=Eq.trans rfl rfl
theorem zcn (cs:List PV) (o:Nat):PV.clean (.cp cs o)=.cp cs o:=Eq.trans rfl rfl
theorem ziG (j:Nat) (cs:List PV) (o:Nat):PV.pre j (.cp cs o)=.cp cs o:=Eq.trans rfl rfl
theorem zco (f:Fn) (x y:List PV):PV.clean (.fn f x y)=.fn f x y:=Eq.trans rfl rfl
theorem ziH (j:Nat) (f:Fn) (x y:List PV):PV.pre j (.fn f x y)=.fn f x y:=Eq.trans rfl rfl
theorem zaQ (t:TypeId) (x:PV):PV.clean (.ifc t x)=.ifc t x:=Eq.trans rfl rfl
theorem zf8 (j:Nat) (t:TypeId) (x:PV):PV.pre j (.ifc t x)=.ifc t x:=Eq.trans rfl rfl
theorem zaS  : PV.clean (.und)=.und:=Eq.trans rfl rfl
theorem zgb (j:Nat)  : PV.pre j (.und)=.und:=Eq.trans rfl rfl
theorem zeU (es:List (List PV)) (n m:Nat):PV.clean (.sl es (.r n m))=.sl es (.r n m):=Eq.trans rfl rfl
theorem zeS (es:List (List PV)) (m:Nat):PV.clean (.sl es (.n m))=.sl es .sh:=Eq.trans rfl rfl
theorem zeT (es:List (List PV)) (m:Nat):PV.clean (.sl es (.p m))=.sl es .sh:=Eq.trans rfl rfl
theorem zln (j:Nat) (es:List (List PV)) (n m:Nat):PV.pre j (.sl es (.r n m))=.sl es (.p j):=Eq.trans rfl rfl
theorem zll (j:Nat) (es:List (List PV)) (m:Nat):PV.pre j (.sl es (.n m))=.sl es .sh:=Eq.trans rfl rfl
theorem zlm (j:Nat) (es:List (List PV)) (m:Nat):PV.pre j (.sl es (.p m))=.sl es .sh:=Eq.trans rfl rfl
theorem zd8 (es:List (List PV)) (i:Nat):Xw none (.sl es (.p i))=.p i:=Eq.trans rfl rfl
theorem zd9 (y:PO) (p:PV):Xw (some y) p=.sh:=Eq.trans rfl rfl
theorem ziT (es:List (List PV)):Xw none (.sl es .sh)=.sh:=Eq.trans rfl rfl
theorem zlS (es:List (List PV)):Xw none (.sl es .z)=.sh:=Eq.trans rfl rfl
theorem zlR (es:List (List PV)) (n m:Nat):Xw none (.sl es (.r n m))=.sh:=Eq.trans rfl rfl
theorem zlQ (es:List (List PV)) (m:Nat):Xw none (.sl es (.n m))=.sh:=Eq.trans rfl rfl
theorem zkm (x:Value):PV.isD (.v x)=true:=Eq.trans rfl rfl
theorem zfw (cs:List PV):PV.isD (.agg cs)=true:=Eq.trans rfl rfl
theorem zfy (cs:List PV):PV.isD (.tup cs)=true:=Eq.trans rfl rfl
theorem zh5 (es:List (List PV)) (o:Ow):PV.isD (.sl es o)=true:=Eq.trans rfl rfl
theorem zh3 (cs:List PV) (o:Nat):PV.isD (.cp cs o)=true:=Eq.trans rfl rfl
theorem zfx (t:TypeId) (x:PV):PV.isD (.ifc t x)=true:=Eq.trans rfl rfl
theorem zb1:zY []=true:=Eq.trans rfl rfl
theorem zaE (p:PV) (l:List PV):zY (p::l)=(p.isD && zY l):=Eq.trans rfl rfl
end
section
variable {nb:Nat}
theorem zgx (p:PV):SubP nb p .und ↔ True:=⟨fun _=>trivial,fun _=>.und p⟩
theorem zl0 (x y:Value):SubP nb (.v x) (.v y) ↔ x=y:=⟨fun h=>by cases h<;>rfl,fun h=>by subst h;exact .eq _ rfl⟩
theorem zgt (x y:List PV):SubP nb (.agg x) (.agg y) ↔ x=y:=⟨fun h=>by cases h<;>rfl,fun h=>by subst h;exact .eq _ rfl⟩
theorem zgw (x y:List PV):SubP nb (.tup x) (.tup y) ↔ x=y:=⟨fun h=>by cases h<;>rfl,fun h=>by subst h;exact .eq _ rfl⟩
theorem zgv (t t':TypeId) (x y:PV):SubP nb (.ifc t x) (.ifc t' y) ↔ t=t'/\x=y:=⟨fun h=>by cases h<;>exact⟨rfl,rfl⟩,fun⟨h,h'⟩=>by subst h;subst h';exact .eq _ rfl⟩
theorem zi1 (x y:List PV) (i j:Nat):SubP nb (.cp x i) (.cp y j) ↔ x=y/\i=j:=⟨fun h=>by cases h<;>exact⟨rfl,rfl⟩,fun⟨h,h'⟩=>by subst h;subst h';exact .eq _ rfl⟩
theorem zi0 (i j o o':Nat):SubP nb (.bx i o) (.bx j o') ↔ (i=j/\o=o')/\i<nb:=⟨fun h=>by cases h<;>(rename_i h;exact⟨⟨rfl,rfl⟩,by simpa [zbe] using h⟩),fun⟨⟨h,h'⟩,h2⟩=>by subst h;subst h';exact .eq _ (by simpa [zbe] using h2)⟩
theorem zi2 (f f':Fn) (x y x' y':List PV):SubP nb (.fn f x y) (.fn f' x' y') ↔ (f=f'/\x=x'/\y=y')/\(x.all (JU nb) && y.all (JU nb))=true:=
 ⟨fun h=>by cases h<;>(rename_i h;exact⟨⟨rfl,rfl,rfl⟩,h⟩),fun⟨⟨h,h',h3⟩,h2⟩=>by subst h;subst h';subst h3;exact .eq _ h2⟩
theorem zi3 (x y:List (List PV)) (o:Ow):SubP nb (.sl x o) (.sl y .sh) ↔ x=y:=⟨fun h=>by cases h<;>rfl,fun h=>by subst h;exact .sh (.sl x o) rfl⟩
theorem zl1 (x y:List (List PV)):SubP nb (.sl x .z) (.sl y .z) ↔ x=y:=⟨fun h=>by cases h<;>rfl,fun h=>by subst h;exact .eq _ rfl⟩
theorem zlZ (x y:List (List PV)) (n m n' m':Nat):SubP nb (.sl x (.r n m)) (.sl y (.r n' m')) ↔ x=y/\n=n'/\m=m':=⟨fun h=>by cases h<;>exact⟨rfl,rfl,rfl⟩,fun⟨h,h',h2⟩=>by subst h;subst h';subst h2;exact .eq _ rfl⟩
theorem zi4 (x y:List (List PV)) (n m:Nat):SubP nb (.sl x .z) (.sl y (.r n m)) ↔ x=[]/\y=[]:=⟨fun h=>by cases h;exact⟨rfl,rfl⟩,fun⟨h,h'⟩=>by subst h;subst h';exact .nil _ _⟩
theorem zei (t t':List (Nat × PV)) (b b':List (List PV)):YQ ⟨t,b⟩ ⟨t',b'⟩ ↔ SubT b'.length t t'/\SubB b'.length b b':=Iff.rfl
theorem zbO (t:List (Nat × PV)):SubT nb t [] ↔ True:=Iff.rfl
theorem Ko (t r:List (Nat × PV)) (i:Nat) (q:PV):SubT nb t ((i,q)::r) ↔ SubP nb (yr t i) q/\SubT nb t r:=Iff.rfl
theorem zbM (l:List (List PV)):SubB nb l [] ↔ True:=⟨fun _=>trivial,fun _=>.nil l⟩
def SubC (nb:Nat):List PV->List PV->Prop
 | [],[]=>True
 | p::l,q::r=>SubP nb p q/\SubC nb l r
 | _,_=>False
theorem SubC.get:∀ {l r:List PV},SubC nb l r->l.length=r.length/\∀(j:Nat) p q,l[j]? = some p->r[j]? = some q->SubP nb p q
 | [],[],_=>⟨rfl,fun j p q h=>by simp at h⟩
 | p::l,q::r,h=>by
   obtain⟨h1,h2⟩:=SubC.get h.2
   refine⟨by simp [h1],fun j p' q' hp hq=>?_⟩
   cases j with
   | zero=>simp at hp hq;subst hp;subst hq;exact h.1
   | succ j=>exact h2 j p' q' (by simpa using hp) (by simpa using hq)
 | [],_::_,h=>h.elim
 | _::_,[],h=>h.elim
theorem Km (cs cs':List PV) (l l':List (List PV)) (h:SubC nb cs cs'/\SubB nb l l'):SubB nb (cs::l) (cs'::l'):=.cons _ _ _ _ h.1.get.1 h.1.get.2 h.2
theorem VZ:∀(l r:List PV),l.length=r.length->(∀(j:Nat) p q,l[j]? = some p->r[j]? = some q->SubP nb p q)->SubC nb l r
 | [],[],_,_=>trivial
 | p::l,q::r,h,hc=>⟨hc 0 p q rfl rfl,VZ l r (by simpa using h) fun j p q h1 h2=>hc (j+1) p q (by simpa using h1) (by simpa using h2)⟩
 | [],_::_,h,_=>by simp at h
 | _::_,[],h,_=>by simp at h
theorem Ye (cs cs':List PV) (l l':List (List PV)):SubB nb (cs::l) (cs'::l') ↔ SubC nb cs cs'/\SubB nb l l':=⟨fun h=>by cases h with | cons _ _ _ _ h hc hl=>exact⟨VZ _ _ h hc,hl⟩,Km cs cs' l l'⟩
theorem zeh:SubC nb [] [] ↔ True:=Iff.rfl
theorem zbN (p q:PV) (l r:List PV):SubC nb (p::l) (q::r) ↔ SubP nb p q/\SubC nb l r:=Iff.rfl
end
def Q2 (s:Iv):List PV:=[.v (.int .u64 s.lo),.v (.int .u64 s.hi)]
def Je (s:Iv):PV:=.agg (Q2 s)
def yN (x:Nat):List PV:=[.v (.int .u64 x)]
def rg (l:List Iv):PV:=.sl (l.map Q2) .sh
def rgs (ls:List (List Iv)):PV:=.sl (ls.map fun l=>[rg l]) .sh
theorem zja (n:Int):IntKind.u64.wrap n=n % 18446744073709551616:=by
 simp only [IntKind.wrap,IntKind.bits,IntKind.signed,Bool.false_and,Bool.false_eq_true,if_false]
 rfl
theorem z7 (k:Nat):(k:Int)+1=((k+1:Nat):Int):=Eq.trans rfl rfl
theorem pLoop.mk {body:(PX->PS->Prop)->PS->Prop} {Q:PX->PS->Prop} {s:PS} {ι:Type} (J:ι->Prop) (S:ι->PS) (m:ι->Nat) (i0:ι) (h0:J i0) (hs:YQ s (S i0)) (hr:∀ i,J i->body (kL (fun s'=>∃ j,J j/\m j<m i/\YQ s' (S j)) Q) (S i)):pLoop body Q s:=
 ⟨ι,J,S,m,i0,h0,hs,hr⟩
theorem ziR {n:Int} (h : -9223372036854775808<=n/\n<9223372036854775808):rng .i64 n=True:=by simp [rng,h]
theorem xo {α:Type} {f:α->List PV} {l:List α} {k:Nat} (h:k<l.length):(l.map f)[k]? = some (f l[k]):=by rw [List.getElem?_map,List.getElem?_eq_getElem h];rfl
theorem Vr {k:Nat} (h:1<=k):(k:Int) - 1=((k - 1:Nat):Int):=by omega
theorem zaf {a b:Nat} (h:b<=a):(a:Int) - (b:Int)=((a - b:Nat):Int):=by omega
theorem zae (a b:Nat):(a:Int)+(b:Int)=((a+b:Nat):Int):=by omega
theorem zbm {n:Int} (h:0<=n/\n<18446744073709551616):n % 18446744073709551616=n:=Int.emod_eq_of_lt h.1 h.2
theorem ziX {a:Int} (h:0<=a):zgm .u64 a 1=a / 2:=by
 unfold zgm
 rw [Int.fdiv_eq_ediv_of_nonneg _ (by decide)]
 rfl
theorem zdo (a:Nat):(a:Int) / 2=((a / 2:Nat):Int):=by omega
theorem JG (s:PS):qI [] s=s:=rfl
theorem X9 (i:PI) (h:List PI) (s:PS):qI (i::h) s=qI h (s.put i.d .und):=rfl
theorem zlr (es:List (List PV)) (o:Ow) (K:List (List PV)->Prop):QA (.sl es o) K=K es:=rfl
theorem zkR {α β:Type} (f:α->β) (n:Nat) (l:List α):List.take n (l.map f)=(l.take n).map f:=List.map_take.symm
theorem zkQ {α β:Type} (f:α->β) (n:Nat) (l:List α):List.drop n (l.map f)=(l.drop n).map f:=List.map_drop.symm
theorem pLoop.go {P:Program} {nt:Nat} {fr:Prop} {pc:PC} {Q:PX->PS->Prop} {t:List (Nat × PV)} {b:List (List PV)} {ι:Type} (J:ι->Prop) (T:ι->List (Nat × PV)) (Bx:ι->List (List PV)) (m:ι->Nat) (i0:ι) (W:List Nat) (h0:J i0)
 (hs:YQ ⟨t,b⟩ ⟨T i0++t.filter (fun y=>!W.contains y.1),Bx i0⟩) (hr:∀ i,J i->pW P nt fr pc (kL (fun s'=>∃ j,J j/\m j<m i/\YQ s' ⟨T j++t.filter (fun y=>!W.contains y.1),Bx j⟩) Q) ⟨T i++t.filter (fun y=>!W.contains y.1),Bx i⟩):pLoop (pW P nt fr pc) Q ⟨t,b⟩:=
 ⟨ι,J,fun i=>⟨T i++t.filter (fun y=>!W.contains y.1),Bx i⟩,m,i0,h0,hs,hr⟩
theorem Dat.v_inv {D:Nat->Nat->Prop} {w:World} {x y:Value} (h:Dat D w x (.v y)):x=y:=(Rel.dat (ρ:=fun _=>0) (nb:=0) h).v_inv
theorem je {D:Nat->Nat->Prop} {w:World} {v:Value} {l:List Iv} (h:Dat D w v (rg l)) (hD:∀ b o,D b o->b<w.heap.size) (hb:∀ s ∈ l,s.lo<zk/\s.hi<zk):RdR 0 w.heap.size w v l:=by
 unfold rg at h
 generalize he:l.map Q2=es at h
 cases h with
 | sl a cap sz es o b off u hc hz hm ha hsz hd hx=>
   have hl:es.length=l.length:=by rw [<-he];simp
   refine⟨a,cap,by rw [hl],by omega,hm,fun hne=>?_⟩
   have hpos:0<l.length:=List.length_pos_iff.2 hne
   have g:∀ i (h:i<l.length),es[i]? = some (Q2 l[i]):=fun i h=>by rw [<-he];exact xo h
   obtain rfl:2=sz:=hsz 0 _ (g 0 hpos)
   have hes:es≠[]:=by intro e;subst e;simp at hl;omega
   have hdlt:b<w.heap.size:=hD _ _ (hd 0 (by omega)).1
   refine⟨b,off,ha hes,Nat.zero_le _,hdlt,fun i hi=>?_⟩
   have e0:=(hx i _ 0 _ (g i hi) rfl).v_inv
   have e1:=(hx i _ 1 _ (g i hi) rfl).v_inv
   have c0:=(hd (i * 2+0) (by omega)).2.1
   have c1:=(hd (i * 2+1) (by omega)).2.1
   rw [e0] at c0
   rw [e1] at c1
   exact⟨c0,c1,hb _ (List.getElem_mem _)⟩
theorem jp {D:Nat->Nat->Prop} {lo hi:Nat} {w:World} {v:Value} {l:List Iv} (h:RdR lo hi w v l) (hD:∀ b o,lo<=b->b<hi->D b o):Dat D w v (rg l):=by
 obtain⟨a,cap,rfl,h1,h2,h3⟩:=h
 unfold rg
 rw [show l.length=(l.map Q2).length by simp]
 by_cases hne:l=[]
 ·subst hne
  exact .sl a cap 2 [] .sh 0 0 (fun _=>undef) (by simp) (fun h=>by cases h) h2 (fun h=>absurd rfl h) (fun i e h=>by simp at h) (fun j h=>by simp at h) (fun i e j p h=>by simp at h)
 obtain⟨b,off,rfl,hb1,hb2,hc⟩:=h3 hne
 refine .sl _ cap 2 _ .sh b off (fun j=>(xw l).getD j undef) (by simpa using h1) (fun h=>by cases h) h2 (fun _=>rfl) (fun i e h=>?_) (fun j hj=>?_) (fun i e j p he hp=>?_)
 ·simp only [List.getElem?_map,Option.map_eq_some_iff] at h
  obtain⟨s,_,rfl⟩:=h
  rfl
 ·simp only [List.length_map] at hj
  obtain⟨i,r,rfl,hr⟩:∃ i r,j=i * 2+r/\r<2:=⟨j / 2,j % 2,by omega,by omega⟩
  have hi:i<l.length:=by omega
  obtain⟨c0,c1,_,_⟩:=hc i hi
  obtain⟨f0,f1⟩:=vz l i hi
  refine⟨hD _ _ hb1 hb2,?_⟩
  obtain rfl | rfl:r=0\/r=1:=by omega
  ·rw [List.getD_eq_getElem?_getD,Nat.add_zero,f0]
   exact⟨c0,by simp [Value.oneCell']⟩
  ·rw [List.getD_eq_getElem?_getD,f1]
   exact⟨c1,by simp [Value.oneCell']⟩
 ·have hi:i<l.length:=by have:=(List.getElem?_eq_some_iff.1 he).1;simpa using this
  rw [xo hi] at he
  cases he
  obtain⟨f0,f1⟩:=vz l i hi
  match j,hp with
  | 0,hp=>cases hp;simp only [List.getD_eq_getElem?_getD,Nat.add_zero,f0];exact .v _
  | 1,hp=>cases hp;simp only [List.getD_eq_getElem?_getD,f1];exact .v _
  | j+2,hp=>simp [Q2] at hp
theorem Nrm.lt {l:List Iv} (h:Nrm l):∀ s ∈ l,s.lo<zk/\s.hi<zk:=fun s hs=>by
 have:=NF.lo_ge h s hs;omega
theorem Js {f:FuncId} {ps:List PV} {r:PV} (hr:r.own=none) (hent:∀ args w,(callFunc f args).run Tryz.prog w=.ok (.enter f args) w)
 (h:∀(D:Nat->Nat->Prop) (w:World) (vs:Array Value),(∀ b o,D b o->b<w.heap.size)->vs.size=ps.length->(∀(i:Nat) p,ps[i]? = some p->Dat D w (vs.getD i undef) p) ->
   Calls Tryz.prog f vs w fun e w'=>∃ v,e=.returned v/\Below w.heap.size w w'/\Dat (fun b o=>D b o\/(w.heap.size<=b/\b<w'.heap.size)) w' v r):Cn Tryz.prog f ps r:=by
 refine⟨hent,fun D w vs _ hD hsz hd=>(h D w vs hD hsz hd).mono ?_⟩
 rintro e w' ⟨v,rfl,hb,hv⟩
 exact⟨v,_,rfl,hb,fun b o h=>.inl h,fun b o h=>h.imp id And.left,fun b o h=>h.elim (fun h=>Nat.lt_of_lt_of_le (hD b o h) hb.size) And.right,hv,zr hr⟩
theorem zeJ {vs:Array Value} (h:vs.size=2):vs=#[vs.getD 0 undef,vs.getD 1 undef]:=by
 obtain⟨l⟩:=vs
 match l,h with
 | [x,y],_=>rfl
theorem Jt {f:FuncId} {a b r:List Iv} (ha:Nrm a) (hb:Nrm b) (hent:∀ args w,(callFunc f args).run Tryz.prog w=.ok (.enter f args) w)
 (h:∀ va vb w,RdR 0 w.heap.size w va a->RdR 0 w.heap.size w vb b->Calls Tryz.prog f #[va,vb] w fun e w'=>∃ v,e=.returned v/\OwnR w.heap.size w' v r/\Below w.heap.size w w'):Cn Tryz.prog f [rg a,rg b] (rg r):=by
 refine Js rfl hent fun D w vs hD hsz hd=>?_
 rw [zeJ hsz]
 refine(h _ _ w (je (hd 0 _ rfl) hD ha.lt) (je (hd 1 _ rfl) hD hb.lt)).mono ?_
 rintro e w' ⟨v,rfl,hv,hbl⟩
 exact⟨v,rfl,hbl,jp hv.rd fun b o h1 h2=>.inr ⟨h1,h2⟩⟩
theorem zaz (a b:List Iv) (ha:Nrm a) (hb:Nrm b) (hl:a.length+b.length<=1073741824):Cn Tryz.prog 41 [rg a,rg b] (rg (qy zn a b)):=
 Jt ha hb (enters_of Tryz.func41 (by kernel_rfl) rfl) fun va vb w ra rb=>V4 a b va vb w ha hb ra rb hl
theorem zg0 (a:List Iv) (s:Iv) (ha:Nrm a) (hs:s.lo<=s.hi) (hs':s.hi<zk) (hl:a.length<=1073741823):Cn Tryz.prog 102 [rg a,Je s] (rg (qy zm [s] a)):=by
 refine Js rfl (enters_of Tryz.func102 (by kernel_rfl) rfl) fun D w vs hD hsz hd=>?_
 rw [zeJ hsz]
 have h1:vs.getD 1 undef=.agg #[.int .u64 s.lo,.int .u64 s.hi]:=by
  have:=hd 1 _ rfl
  unfold Je at this
  generalize vs.getD 1 undef=v1 at this ⊢
  generalize hc:Q2 s=cs at this
  cases this with
  | agg us cs hs _ h=>
    subst hc
    obtain⟨l⟩:=us
    match l,hs with
    | [x,y],_=>
      have e0:=(h 0 _ rfl).v_inv
      have e1:=(h 1 _ rfl).v_inv
      simp at e0 e1
      rw [e0,e1]
 rw [h1]
 refine(zbn a _ s w ha hs hs' (je (hd 0 _ rfl) hD ha.lt) hl).mono ?_
 rintro e w' ⟨v,rfl,hv,hbl⟩
 exact⟨v,rfl,hbl,jp hv.rd fun b o h1 h2=>.inr ⟨h1,h2⟩⟩
attribute [go_sem] zdN zdM zcX zmt zmr zms zdh zfG ze9 zlh zlf zlc zli zla zld zlg zle zbr zbq zbs zdD
attribute [go_sem] zdA zdC zgy zgA zgz zb8 zb9 zca zf1 zf2 zf3 JG X9 zlr zkR zkQ qK PV.v.injEq
attribute [go_sem] exists_eq' exists_eq ne_eq not_false_eq_true not_true_eq_false List.append_eq_nil_iff List.cons_ne_nil zf4 zf5 zdG zgh zlH zlI
attribute [go_sem] ziM ziN zgl zd7 zlN zlP zlO zlK zlM zlL PV.resD List.all_cons List.all_nil zdB zba JN zbG zbF
attribute [go_sem] zk7 zix ziy ziz ziA ziC zb7 zb6 zh1 zmi zfz zmQ zmR zh7 zmm zhk zhl zlJ zj1 zj2 zj3 zj4 zjA
attribute [go_sem] zjz zjC zjB zkI zkH zkL zkK zkP zkO zkN zkM Jn zcf zce Jp zcg zaL zaM Jo
attribute [go_sem] Jq zci zch zaN zaO Jr zfg zcQ zlb zgL zgK zhO zhL zhN zhM zkc zlk zlj zjW zjU
attribute [go_sem] zpr zpS zpO zpv zpx zpy zpz zpT zpP
attribute [go_sem] zfd zcN zfe zcO zkB zkf zkF zkh znb zmN zna zmM zmU zmx zm6 zmH zm4 zmF zm8 zmK zm9 zmL zm1 zmC zjL zkW zkV zkU zkT zjm zjn
attribute [go_sem] zfL zdl zkl zhZ zfu zhW zhX zhY zfv zh2 zh4 ziR xo Vr zaf zae zbm Int.cast_ofNat_Int
attribute [go_sem] Int.natCast_eq_zero List.length_eq_zero_iff decide_true decide_false List.filter_cons List.filter_nil List.contains_cons List.contains_nil Bool.or_false
attribute [go_sem] Bool.false_or Bool.or_true Bool.true_or Bool.and_false Bool.false_and List.any_cons List.any_nil List.mem_map forall_exists_index and_imp
attribute [go_sem] forall_apply_eq_imp_iff₂ List.mem_append List.mem_cons List.not_mem_nil List.mem_singleton or_false or_imp forall_and forall_eq_or_imp bne_self_eq_false
attribute [go_sem] Bool.bne_false Bool.bne_true Bool.false_bne Bool.true_bne beq_self_eq_true zk1 zk2 znH znI zkY zkZ J3 J2 zkA zke zkz
attribute [go_sem] zkd zkG zki zm2 zmD zm3 zmE zm5 zmG zmI zm7 zmJ zmX zmz zmZ zmA zkE zkD zib zh9 zia zhR zhP zhQ znc zmO znd
attribute [go_sem] zmP zjD zjE zjF zjG zkC zkg zi7 zl2 zmV zmY zlY zlX zne zm0 zjI zjJ zeM zhp zjK zeN zho zmB zmW zjt
attribute [go_sem] zju zjr zjq zjs zjp zmy vM xV vr xP K6 zft XI yC isT zgr zbJ zbL zef zgs zgq zgo
attribute [go_sem] zec zed zee zbK znE ziU ziW zlW zlT zlU zlV ziV zk8 zfW zfY ziw zk9 zk5 zit ziu ziv
attribute [go_sem] zfX zhA zcE zcG zfa zhB zhz zhx ze6 ze7 ze8 zcF zcH zcp zeV zaP zaR zcq
attribute [go_sem] zeW zcm zcn zco zaQ zaS zlo zf7 zga ziI zlp ziF ziG ziH zf8 zgb zeU zeS zeT
attribute [go_sem] zln zll zlm zd8 zd9 ziT zlS zlR zlQ zgp zk6 zhy zkm zfw zfy zh5 zh3 zfx zb1 zaE zgx
attribute [go_sem] zl0 zgt zgw zgv zi1 zi0 zi2 zi3 zl1 zlZ zi4 zei zbO Ko zbM Ye zeh zbN
attribute [go_sem] Value.int.injEq Value.bool.injEq Int.toNat_natCast Int.natCast_nonneg z7 zja Int.natCast_pos qQ Value.oneCell' Je rg Q2 yN rgs
attribute [go_sem] List.flatMap_nil List.length_cons List.length_nil List.map_cons List.map_nil List.nil_append List.cons_append List.append_nil List.getElem?_cons_zero
attribute [go_sem] List.getElem?_cons_succ List.getElem?_nil List.take_succ_cons List.take_zero List.drop_succ_cons List.drop_zero List.take_nil List.drop_nil
attribute [go_sem] List.set_cons_zero List.set_cons_succ List.length_map Option.map_some Option.some.injEq Option.isSome_some Option.getD_some decide_eq_true_eq
attribute [go_sem] Bool.and_eq_true Bool.or_eq_true true_and and_true false_and and_false forall_const true_implies false_implies implies_true Bool.true_eq_false
attribute [go_sem] Bool.false_eq_true Bool.not_true Bool.not_false Bool.and_true Bool.true_and Nat.zero_add Nat.add_zero Nat.le_refl Int.ofNat_le Int.ofNat_lt
attribute [go_sem] Int.ofNat_inj forall_eq
attribute [go_sem] ziX zdo zfK zdk zka zmv zhG zhJ zkb zj7 zj8 zhH zhK zj9 zhE zj6 zhF
theorem yI {a:Prop} (h:a:=by first | omega | assumption | exact True.intro | (show zb2 _ _=true;exact rfl) | (simp only [List.length_map,List.length_append,List.length_cons,List.length_nil,List.length_take,List.length_drop];omega)):a:=h
theorem zb:(∀ {p:Prop} [Decidable p],(decide p=true)=p)/\(∀ {p:Prop} {x:Decidable p},decide p=false ↔ ¬p)/\(∀(a b:Bool),((a && b)=true)=(a=true/\b=true))/\(∀(a b:Bool),((a || b)=true)=(a=true\/b=true))/\(∀(b:Bool),((!b)=true)=(b=false))/\(∀(b:Bool),((!b)=false)=(b=true))/\(∀ {x y:Bool},(x && y)=false ↔ x=false\/y=false)/\(∀ {x y:Bool},(x || y)=false ↔ x=false/\y=false)/\(∀ {a b:Nat},¬a<b ↔ b<=a)/\(∀ {a b:Int},¬a<b ↔ b<=a)/\(∀ {a b:Nat},¬a<=b ↔ b<a)/\(∀ {a b:Int},¬a<=b ↔ b<a)/\(∀ {n m:Nat},(n:Int)<(m:Int) ↔ n<m)/\(∀ {m n:Nat},(m:Int)<=(n:Int) ↔ m<=n)/\(∀ {m n:Nat},(m:Int)=(n:Int) ↔ m=n)/\(∀(x:Bool),(x ^^ false)=x)/\(∀(x:Bool),(false ^^ x)=x)/\(∀(x:Bool),(true ^^ x)=!x)/\(∀(x:Bool),(x ^^ true)=!x)/\((!true)=false)/\((!false)=true):=
 ⟨@decide_eq_true_eq,@decide_eq_false_iff_not,@Bool.and_eq_true,@Bool.or_eq_true,@Bool.not_eq_true',@Bool.not_eq_false',@Bool.and_eq_false_iff,@Bool.or_eq_false_iff,@Nat.not_lt,@Int.not_lt,@Nat.not_le,@Int.not_le,@Int.ofNat_lt,@Int.ofNat_le,@Int.ofNat_inj,@Bool.xor_false,@Bool.false_xor,@Bool.true_xor,@Bool.xor_true,Bool.not_true,Bool.not_false⟩
theorem pw {G G':Prop} (k:G') (e:Hd G'->G:=by intro k_;(try simp (maxSteps:=2000000) (disch:=omega) only [go_sem,seval]);(repeat ((with_reducible refine And.intro ?_ ?_);focus exact yI));exact k_.h):G:=e ⟨k⟩
theorem pd {G:Prop} (e:Hd True->G:=by intro k_;(try simp (maxSteps:=2000000) (disch:=omega) only [go_sem,seval]);(repeat ((with_reducible refine And.intro ?_ ?_);focus exact yI))):G:=e ⟨trivial⟩
theorem callP.c {P:Program} {K:PS->Prop} {d:Option Nat} {s:PS} {G':Prop} {f:FuncId} {xs:List PV} {r:PV} (h:Cn P f xs r) (k:G') (hd:zY xs=true:=by exact rfl) (e:Hd G'->K (s.put d r):=by intro k_;(try simp (maxSteps:=2000000) (disch:=omega) only [go_sem,seval]);(repeat ((with_reducible refine And.intro ?_ ?_);focus exact yI));exact k_.h):callP P f xs K d s:=.mk h hd (e ⟨k⟩)
theorem callQ.c {P:Program} {K:PS->Prop} {d:Option Nat} {s:PS} {G':Prop} {f:FuncId} {xs:List PV} {r:PV} (h:Cn P f xs r) (k:G') (hd:zY xs=true:=by exact rfl) (e:Hd G'->K (s.put d r.strip):=by intro k_;(try simp (maxSteps:=2000000) (disch:=omega) only [go_sem,seval]);(repeat ((with_reducible refine And.intro ?_ ?_);focus exact yI));exact k_.h):callQ P f xs K d s:=.mk h hd (e ⟨k⟩)
theorem callO.c {P:Program} {K:PS->Prop} {d:Option Nat} {s:PS} {n sz:Nat} {G':Prop} {f:FuncId} {es:List (List PV)} {xs:List PV} {r:PV} (h:Cn P f (.sl es .sh::xs) r) (k:G') (hd:zY xs=true:=by exact rfl) (e:Hd G'->K (s.put d r):=by intro k_;(try simp (maxSteps:=2000000) (disch:=omega) only [go_sem,seval]);(repeat ((with_reducible refine And.intro ?_ ?_);focus exact yI));exact k_.h):callO P f es n sz xs K d s:=.rd h hd (e ⟨k⟩)
theorem callO.o {P:Program} {K:PS->Prop} {d:Option Nat} {s:PS} {n sz:Nat} {G':Prop} {f:FuncId} {es rs:List (List PV)} {xs:List PV} (h:OCn P f es sz xs rs) (k:G') (hd:zY xs=true:=by exact rfl) (e:Hd G'->K ((s.down n).put d (.sl rs (.r n sz))):=by intro k_;(try simp (maxSteps:=2000000) (disch:=omega) only [go_sem,seval]);(repeat ((with_reducible refine And.intro ?_ ?_);focus exact yI));exact k_.h):callO P f es n sz xs K d s:=.mk h hd (e ⟨k⟩)
theorem callP.d {P:Program} {K:PS->Prop} {d:Option Nat} {s:PS} {f:FuncId} {xs:List PV} {r:PV} (h:Cn P f xs r) (hd:zY xs=true:=by exact rfl) (e:Hd True->K (s.put d r):=by intro k_;(try simp (maxSteps:=2000000) (disch:=omega) only [go_sem,seval]);(repeat ((with_reducible refine And.intro ?_ ?_);focus exact yI))):callP P f xs K d s:=.mk h hd (e ⟨trivial⟩)
theorem callQ.d {P:Program} {K:PS->Prop} {d:Option Nat} {s:PS} {f:FuncId} {xs:List PV} {r:PV} (h:Cn P f xs r) (hd:zY xs=true:=by exact rfl) (e:Hd True->K (s.put d r.strip):=by intro k_;(try simp (maxSteps:=2000000) (disch:=omega) only [go_sem,seval]);(repeat ((with_reducible refine And.intro ?_ ?_);focus exact yI))):callQ P f xs K d s:=.mk h hd (e ⟨trivial⟩)
theorem callO.d {P:Program} {K:PS->Prop} {d:Option Nat} {s:PS} {n sz:Nat} {f:FuncId} {es:List (List PV)} {xs:List PV} {r:PV} (h:Cn P f (.sl es .sh::xs) r) (hd:zY xs=true:=by exact rfl) (e:Hd True->K (s.put d r):=by intro k_;(try simp (maxSteps:=2000000) (disch:=omega) only [go_sem,seval]);(repeat ((with_reducible refine And.intro ?_ ?_);focus exact yI))):callO P f es n sz xs K d s:=.rd h hd (e ⟨trivial⟩)
theorem callO.q {P:Program} {K:PS->Prop} {d:Option Nat} {s:PS} {n sz:Nat} {f:FuncId} {es rs:List (List PV)} {xs:List PV} (h:OCn P f es sz xs rs) (hd:zY xs=true:=by exact rfl) (e:Hd True->K ((s.down n).put d (.sl rs (.r n sz))):=by intro k_;(try simp (maxSteps:=2000000) (disch:=omega) only [go_sem,seval]);(repeat ((with_reducible refine And.intro ?_ ?_);focus exact yI))):callO P f es n sz xs K d s:=.mk h hd (e ⟨trivial⟩)
theorem callP.rd {P:Program} {K:PS->Prop} {d:Option Nat} {s:PS} {f:FuncId} {xs:List PV} {r:PV} (h:Cn P f xs r) (hd:zY xs=true) (hk:K (s.put d r)):callP P f xs K d s:=.mk h hd hk
theorem callQ.rd {P:Program} {K:PS->Prop} {d:Option Nat} {s:PS} {f:FuncId} {xs:List PV} {r:PV} (h:Cn P f xs r) (hd:zY xs=true) (hk:K (s.put d r.strip)):callQ P f xs K d s:=.mk h hd hk
theorem brP.i {s:PS} {c:Bool} {X Y:PS->Prop} (h1:c=true->X s) (h2:c=false->Y s):brP (.v (.bool c)) X Y s:=.mk h1 h2
theorem pkP.i {s:PS} {c:Bool} {X Y:PS->Prop} (h1:c=true->X s) (h2:c=false->Y s):pkP (.v (.bool c)) X Y s:=.mk h1 h2
theorem gdP.i {s:PS} {d:Option Nat} {c b:Bool} {i:Nat} {X Y:PS->Prop} (h1:c=true->(match b with | true=>X (s.put (some i) (.v (.bool true))) | false=>Y ((s.put (some i) (.v (.bool true))).put d (.v undef)))) (h2:c=false->(match b with | true=>Y ((s.put (some i) (.v (.bool false))).put d (.v undef)) | false=>X (s.put (some i) (.v (.bool false))))):gdP (.v (.bool c)) i b d X Y s:=by
 cases b
 ·exact .mkf h1 h2
 ·exact .mkt h1 h2
theorem zt {P:Program} {f:FuncId} {fn:Func} (hf:P.funcs[f]? = some fn) {ps:List PV} {r:PV} (n:Nat) {G':Prop} (k:G') (hok:zbo P fn [] n=true:=by kernel_rfl) (hl:ps.length=n:=by exact rfl) (hps:∀ p ∈ ps,p.own=none:=by simp [go_sem,seval]) (e:Hd G'->pW P fn.ntmps True (zbt P fn []) (jG (zgk P fn) r) ⟨qQ 0 ps,[]⟩:=by intro k_;(conv=>arg 4;cbv);(conv=>enter [5,1];cbv);exact k_.h):Cn P f ps r:=zgM hf [] n hok hl hps (e ⟨k⟩)
theorem zhS (s:Iv) (x:Nat):Cn Tryz.prog 69 [Je s,.v (.int .u64 x)] (.v (.bool (decide (s.lo<=x) && decide (x<=s.hi)))):=by
 refine zt Tryz.func69 2 ?_
 refine pw ?_
 refine .i ?_ ?_<;>intro h<;>(try simp only [zb] at h)<;>first | refine pw ?_ | exact pd
 ·simp [h]
 ·simp;omega
theorem zdj {l:List Iv} {k x:Nat} (h:k<l.length):mem (l.drop k) x=((decide (l[k].lo<=x) && decide (x<=l[k].hi)) || mem (l.drop (k+1)) x):=by
 rw [List.drop_eq_getElem_cons h];rfl
theorem kU (l:List Iv) (x:Nat) (hl:l.length<=1152921504606846976):Cn Tryz.prog 49 [rg l,.v (.int .u64 x)] (.v (.bool (mem l x))):=by
 refine zt Tryz.func49 2 ?_
 refine pw ?_
 refine pLoop.go (fun k=>k<=l.length/\mem l x=mem (l.drop k) x) (fun k=>[(5,.v (.int .i64 (k:Nat)))]) (fun _=>[]) (fun k=>l.length - k) 0 [5] ?_ ?_ ?_
 ·exact⟨Nat.zero_le _,rfl⟩
 ·exact pd
 ·rintro k ⟨hk,hm⟩
  refine pw ?_
  refine .i ?_ ?_<;>intro h<;>(try simp only [zb] at h)<;>first | refine pw ?_ | exact pd
  ·refine callP.mk (zhS l[k] x) rfl ?_
   refine pw ?_
   have hd:=zdj (x:=x) h
   refine .i ?_ ?_<;>intro e<;>(try simp only [zb] at e)<;>first | refine pw ?_ | exact pd
   ·rw [hm,hd,<-Bool.decide_and];simp [e]
   ·refine⟨k+1,⟨h,?_⟩,by omega,rfl⟩
    rw [hm,hd,<-Bool.decide_and];simp [e];omega
  ·rw [hm,List.drop_of_length_le (by omega)];rfl
theorem zgX:Cn Tryz.prog 68 [] (.v (.int .u64 18446744073709551615)):=by
 refine zt Tryz.func68 0 ?_
 exact pd
theorem zd3 (s t:Iv) (h1:s.lo<zk) (h2:t.lo<zk):Cn Tryz.prog 66 [Je s,Je t] (.v (.int .i64 (zR s t:Nat))):=by
 refine zt Tryz.func66 2 ?_
 refine pw ?_
 have hM:=zw
 unfold zR
 refine .i ?_ ?_<;>intro h<;>(try simp only [zb] at h)<;>first | refine pw ?_ | exact pd
 ·refine .i ?_ ?_<;>intro h'<;>(try simp only [zb] at h')<;>first | refine pw ?_ | exact pd
  ·rw [if_pos h,if_pos (by omega)];rfl
  ·rw [if_pos h,if_neg (by omega)];rfl
 ·refine .i ?_ ?_<;>intro h'<;>(try simp only [zb] at h')<;>first | refine pw ?_ | exact pd
  ·refine .i ?_ ?_<;>intro h3<;>(try simp only [zb] at h3)<;>first | refine pw ?_ | exact pd
   ·rw [if_neg (by omega),if_pos h',if_pos (by omega)];rfl
   ·rw [if_neg (by omega),if_pos h',if_neg (by omega)];rfl
  ·rw [if_neg (by omega),if_neg (by omega)];rfl
theorem zi5 (a b:Bool) (op:Nat) (ho:op<3):Cn Tryz.prog 48 [.v (.bool a),.v (.bool b),.v (.int .i64 op)] (.v (.bool (Qj op a b))):=by
 refine zt Tryz.func48 3 ?_
 obtain rfl | rfl | rfl:op=0\/op=1\/op=2:=by omega
 all_goals (cases a<;>cases b<;>simp (maxSteps:=2000000) (disch:=omega) only [go_sem,seval]<;>rfl)
theorem zan (l:List Nat) (k:Nat) (hk:k<l.length) (hl:l.length<=1152921504606846976) (hs:∀ h:k+1<l.length,1<=l[k+1]/\l[k+1]<zk):Cn Tryz.prog 51 [.sl (l.map fun x=>[.v (.int .u64 (x:Nat))]) .sh,.v (.int .i64 k)] (Je ⟨l[k],if h:k+1<l.length then l[k+1] - 1 else zk - 1⟩):=by
 have hM:=zw
 refine zt Tryz.func51 2 ?_
 refine pw ?_
 refine .i ?_ ?_<;>intro h<;>(try simp only [zb] at h)<;>first | refine pw ?_ | exact pd
 ·obtain⟨h1,h2⟩:=hs h
  rw [dif_pos h]
  exact pd
 ·refine callQ.mk zgX rfl ?_
  rw [dif_neg (by omega)]
  refine pw ?_
  rfl
theorem zdL {l:List Iv} (h:0<l.length) (s:Iv):Q8 l s=if l[l.length - 1].hi+1=s.lo then l.take (l.length - 1)++[⟨l[l.length - 1].lo,s.hi⟩] else l++[s]:=by
 unfold Q8
 rw [List.getLast?_eq_getElem?,List.getElem?_eq_getElem (by omega),List.dropLast_eq_take]
theorem zge {l:List Iv} (h:l.length<=0) (s:Iv):Q8 l s=l++[s]:=by
 have:l=[]:=List.eq_nil_of_length_eq_zero (by omega)
 subst this;rfl
theorem zlq (l:List Iv) (s:Iv) (hs:s.lo<zk) (hb:∀ t ∈ l,t.lo<zk/\t.hi<s.lo) (hl:l.length<1099511627776):OCn Tryz.prog 50 (l.map Q2) 2 [Je s] ((Q8 l s).map Q2):=by
 refine zin Tryz.func50 [] 2 4 (by kernel_rfl) (by kernel_rfl) rfl (by simp [go_sem,seval]) ?_
 conv=>arg 4;cbv
 refine pw ?_
 refine .i ?_ ?_<;>intro h0<;>(try simp only [zb] at h0)<;>first | refine pw ?_ | exact pd
 ·refine callQ.mk (zd3 l[l.length - 1] s (hb _ (List.getElem_mem _)).1 hs) rfl ?_
  have h1:=(hb _ (List.getElem_mem (show l.length - 1<l.length by omega))).2
  refine pw ?_
  rw [zdL h0]
  unfold zR
  rw [if_pos h1]
  refine .i ?_ ?_<;>intro h<;>(try simp only [zb] at h)<;>first | refine pw ?_ | exact pd
  ·rw [if_pos (by split at h<;>first | assumption | cases h)]
   simp [Q2]
  ·rw [if_neg (by split at h<;>first | assumption | exact absurd rfl h)]
   simp [Q2]
 ·rw [zge h0]
  simp [Q2]
end Go.Proofs.YtopfkkogooocgaaGreat
