import Derived.Attr
import Derived.Test.YtjimggclhlnfbaaGreatProg
import Derived.Test.YtjimggclhlnfbaaGreatB11
set_option linter.unusedVariables false
set_option linter.unusedSimpArgs false
set_option maxRecDepth 100000
namespace Go.Proofs.YtjimggclhlnfbaaGreat
open Go.RowKit
section
variable {P:Program} {nt:Nat} {fr:Prop} {d:Option Nat} {t:List (Nat × PV)} {b:List (List PV)} {s:PS} {K:PS->Prop} {Q:PX->PS->Prop} {l:List PI}
theorem zbY (i:Nat) (p:PV):PS.put ⟨t,b⟩ (some i) p=⟨(i,p)::t,b⟩:=Eq.trans rfl rfl
theorem zbX (p:PV):PS.put ⟨t,b⟩ none p=⟨t,b⟩:=Eq.trans rfl rfl
theorem za6 (i:Nat):PS.get ⟨t,b⟩ i=yI t i:=Eq.trans rfl rfl
theorem zks (i:Nat):PS.ev ⟨t,b⟩ (.t i)=yI t i:=Eq.trans rfl rfl
theorem zkq (p:PV):PS.ev s (.c p)=p:=Eq.trans rfl rfl
theorem zkr (f:FuncId):PS.ev s (.f f)=.fn (.func f) [] []:=Eq.trans rfl rfl
theorem zbo (j i:Nat) (p:PV) (r:List (Nat × PV)):yI ((j,p)::r) i=if j=i then p else yI r i:=Eq.trans rfl rfl
theorem zdJ (i:Nat):yI [] i=.und:=Eq.trans rfl rfl
theorem zdg (n:Nat):PS.down n ⟨t,b⟩=⟨t.map fun y=>(y.1,y.2.down n),b.map fun cs=>cs.map (PV.down n)⟩:=Eq.trans rfl rfl
theorem zjf:pW P nt fr .sk Q s=Q .n s:=Eq.trans rfl rfl
theorem zjd (l:List PI):pW P nt fr (.rg l) Q s=zc P l (Q .n) s:=Eq.trans rfl rfl
theorem zja (h l:List PI):pW P nt fr (.dr h l) Q s=ze P h (qR P fr h s.clean l (Q .n)) s.clean:=Eq.trans rfl rfl
theorem zjg (x y:PC):pW P nt fr (.sq x y) Q s=pW P nt fr x (jJ (pW P nt fr y Q) Q) s:=Eq.trans rfl rfl
theorem zi8 (id:Nat) (x:PC):pW P nt fr (.bk id x) Q s=pW P nt fr x (vU id Q) s:=Eq.trans rfl rfl
theorem zjb (id:Nat):pW P nt fr (.ex id) Q s=Q (.x id) s:=Eq.trans rfl rfl
theorem zje:pW P nt fr .rt Q s=Q .r s:=Eq.trans rfl rfl
theorem zjc (w:List Nat) (x:PC):pW P nt fr (.lp w x) Q s=pLoop (pW P nt fr x) Q s:=Eq.trans rfl rfl
theorem KD:zc P [] K s=K s:=Eq.trans rfl rfl
theorem KC:ze P [] K s=K s:=Eq.trans rfl rfl
theorem KE (h:List PI) (s0:PS):qR P fr h s0 [] K s=K s:=Eq.trans rfl rfl
theorem zbL (h:List PI) (s0:PS) (d:Option Nat) (x y:PO) (n:Nat) (l:List PI):qR P fr h s0 (⟨d,none,.st x y n⟩::l) K s=zc P (⟨d,none,.st x y n⟩::l) K s:=by cases d<;>rfl
theorem zbI (h:List PI) (s0:PS) (d:Option Nat) (zs:List PV) (l:List PI):qR P fr h s0 (⟨d,none,.al zs⟩::l) K s=zc P (⟨d,none,.al zs⟩::l) K s:=by cases d<;>rfl
theorem zbK (h:List PI) (s0:PS) (d:Option Nat) (x:PO) (l:List PI):qR P fr h s0 (⟨d,none,.bo x⟩::l) K s=zc P (⟨d,none,.bo x⟩::l) K s:=by cases d<;>rfl
theorem zeE (K:PS->Prop):jJ K Q .n s=K s:=Eq.trans rfl rfl
theorem zeG (K:PS->Prop) (i:Nat):jJ K Q (.x i) s=Q (.x i) s:=Eq.trans rfl rfl
theorem zeF (K:PS->Prop):jJ K Q .r s=Q .r s:=Eq.trans rfl rfl
theorem zaj (id:Nat):vU id Q .n s=Q .n s:=Eq.trans rfl rfl
theorem zak (id:Nat):vU id Q .r s=Q .r s:=Eq.trans rfl rfl
theorem zal (id i:Nat):vU id Q (.x i) s=if i=id then Q .n s else Q (.x i) s:=Eq.trans rfl rfl
theorem zd4 (rs:List RV) (r:PV):Qz rs r .n s=ji rs s r:=Eq.trans rfl rfl
theorem zd5 (rs:List RV) (r:PV):Qz rs r .r s=ji rs s r:=Eq.trans rfl rfl
theorem zd6 (rs:List RV) (r:PV) (i:Nat):Qz rs r (.x i) s=False:=Eq.trans rfl rfl
theorem zel (i:Nat) (r:PV):ji [.t i] s r=SubP 0 (s.get i) r:=Eq.trans rfl rfl
def VE (rs:List (List PV)) (sz:Nat):PV->Prop
 | .sl es (.r _ sz')=>es=rs/\sz'=sz
 | _=>False
theorem zd7 (i sz:Nat) (rs:List (List PV)):JM i rs sz .n s=VE rs sz (s.get i):=by
 show (match s.get i with | .sl es (.r _ sz')=>es=rs/\sz'=sz | _=>False)=_
 cases s.get i<;>rfl
theorem zd8 (i sz:Nat) (rs:List (List PV)):JM i rs sz .r s=VE rs sz (s.get i):=by
 show (match s.get i with | .sl es (.r _ sz')=>es=rs/\sz'=sz | _=>False)=_
 cases s.get i<;>rfl
theorem zbR (es rs:List (List PV)) (n m sz:Nat):VE rs sz (.sl es (.r n m))=(es=rs/\m=sz):=Eq.trans rfl rfl
def zjE:Option PV->PV->Prop
 | some p,r=>p.resD=true/\SubP 0 p.sh r/\r.own=none
 | none,_=>False
def zjF:Option (List PV)->PV->Prop
 | some ps,r=>ps.all PV.resD=true/\SubP 0 (.tup (ps.map PV.sh)) r
 | none,_=>False
def rvC:Option PV->Option (List PV)->Option (List PV)
 | some p,some ps=>some (p::ps)
 | _,_=>none
def rvB:Option (List PV)->Nat->Bool->Nat->Option PV
 | some cs,o,true,n=>if o+n<=cs.length then some (.agg ((cs.drop o).take n)) else none
 | some cs,o,false,_=>cs[o]?
 | none,_,_,_=>none
def rvA:PV->List (List PV)->Bool->Nat->Option PV
 | .bx j o,b,ag,n=>rvB b[j]? o ag n
 | _,_,_,_=>none
theorem zjG (i:Nat) (ag:Bool) (n:Nat) (r:PV):ji [.c i ag n] s r=zjE (RV.get s (.c i ag n)) r:=by
 show (match RV.get s (.c i ag n) with | some p=>_ | none=>False)=_
 cases RV.get s (.c i ag n)<;>rfl
theorem zjH (x y:RV) (l:List RV) (r:PV):ji (x::y::l) s r=zjF (XU s (x::y::l)) r:=by
 have:ji (x::y::l) s r=(match XU s (x::y::l) with | some ps=>ps.all PV.resD=true/\SubP 0 (.tup (ps.map PV.sh)) r | none=>False):=by cases x<;>rfl
 rw [this]
 cases XU s (x::y::l)<;>rfl
theorem zgQ (p r:PV):zjE (some p) r=(p.resD=true/\SubP 0 p.sh r/\r.own=none):=Eq.trans rfl rfl
theorem zgR (ps:List PV) (r:PV):zjF (some ps) r=(ps.all PV.resD=true/\SubP 0 (.tup (ps.map PV.sh)) r):=Eq.trans rfl rfl
theorem zeo:XU s []=some []:=Eq.trans rfl rfl
theorem zcn (x:RV) (l:List RV):XU s (x::l)=rvC (x.get s) (XU s l):=by
 show ((x.get s).bind fun p=>(XU s l).map fun ps=>p::ps)=_
 cases x.get s<;>cases XU s l<;>rfl
theorem zjN (p:PV) (ps:List PV):rvC (some p) (some ps)=some (p::ps):=Eq.trans rfl rfl
theorem zjP (i:Nat):RV.get ⟨t,b⟩ (.t i)=some (yI t i):=Eq.trans rfl rfl
theorem zjO (i:Nat) (ag:Bool) (n:Nat):RV.get ⟨t,b⟩ (.c i ag n)=rvA (yI t i) b ag n:=by
 unfold RV.get
 simp only [za6]
 cases yI t i<;>try rfl
 dsimp only [rvA]
 rename_i j o
 generalize b[j]? = c
 cases c<;>cases ag<;>rfl
theorem zjK (j o:Nat) (ag:Bool) (n:Nat):rvA (.bx j o) b ag n=rvB b[j]? o ag n:=Eq.trans rfl rfl
theorem zjM (cs:List PV) (o n:Nat):rvB (some cs) o true n=if o+n<=cs.length then some (.agg ((cs.drop o).take n)) else none:=Eq.trans rfl rfl
theorem zjL (cs:List PV) (o n:Nat):rvB (some cs) o false n=cs[o]?:=Eq.trans rfl rfl
def zae (h:List PI) (x:Nat):Bool:=h.any fun i=>i.d == some x
def cutP (P:Program) (h:List PI) (s0:PS) (n d:Nat) (E:Prop) (p:PV) (l:List PI) (K:PS->Prop) (F:Prop):Prop:=(E/\∃ keep,keepOk h n s0 keep/\zc P l K ⟨(d,p)::keep.map (fun j=>(j,s0.get j)),[]⟩)\/F
def za4 (P:Program) (h:List PI) (s0:PS) (d n sz i x:Nat) (es0 es:List (List PV)) (y:PO) (l:List PI) (K:PS->Prop) (p:PV) (s:PS):Prop:=
 (h.all fun y=>!(y.d == some i))=true/\s.get i=s0.get i/\es0=es/\(s.put (some x) (.sl es (.r n sz))).ev y=s.ev y/\zc P l K (((s.put (some x) (.sl es (.r n sz))).down n).put (some d) p)
def Zd (s:PS):List Nat->List (Nat × PV)
 | []=>[]
 | j::r=>(j,s.get j)::Zd s r
theorem Y4 (s:PS):∀ l,Zd s l=l.map fun j=>(j,s.get j)
 | []=>rfl
 | j::r=>by simp [Zd,Y4 s r]
theorem Ks (s:PS):Zd s []=[]:=rfl
theorem Vm (s:PS) (j:Nat) (r:List Nat):Zd s (j::r)=(j,s.get j)::Zd s r:=rfl
theorem cutP.mk {h:List PI} {s0:PS} {n d:Nat} {E:Prop} {p:PV} {F:Prop} (keep:List Nat) (hE:E) (hk:keepOk h n s0 keep) (hl:zc P l K ⟨(d,p)::Zd s0 keep,[]⟩):cutP P h s0 n d E p l K F:=.inl ⟨hE,keep,hk,by rw [<-Y4];exact hl⟩
theorem cutP.full {h:List PI} {s0:PS} {n d i x:Nat} {E:Prop} {p:PV} {y:PO} {es0 es:List (List PV)} {sz:Nat} (h1:(h.all fun y=>!(y.d == some i))=true) (h2:s.get i=s0.get i) (h3:es0=es) (h4:(s.put (some x) (.sl es (.r n sz))).ev y=s.ev y) (hl:zc P l K (((s.put (some x) (.sl es (.r n sz))).down n).put (some d) p)) :
 cutP P h s0 n d E p l K (za4 P h s0 d n sz i x es0 es y l K p s):=.inr ⟨h1,h2,h3,h4,hl⟩
theorem keepOk.mk2 {h:List PI} {s0:PS} {n i j:Nat} (h1:(h.all fun y=>!(y.d == some i))=true) (h2:(h.all fun y=>!(y.d == some j))=true) (s1:xH n (s0.get i)) (s2:xH n (s0.get j)) (hd:(s0.get i).own=none\/(s0.get i).own≠(s0.get j).own):keepOk h n s0 [i,j]:=by
 refine⟨fun k hk=>?_,by simpa using hd⟩
 simp at hk
 rcases hk with rfl | rfl
 ·exact⟨h1,s1⟩
 ·exact⟨h2,s2⟩
theorem KT (n:Nat) (x:Value):xH n (.v x)=True:=rfl
theorem KS (n m sz:Nat) (es:List (List PV)):xH n (.sl es (.r m sz))=(m≠n/\qE es/\∀ e ∈ es,e.length=sz):=rfl
theorem zi5 (es:List (List PV)) (n m:Nat):PV.own (.sl es (.r n m))=some n:=rfl
def zgG (P:Program) (h:List PI) (s0:PS) (d i x sz by_:Nat) (y:PO) (es:List (List PV)) (q:PV) (l:List PI) (K:PS->Prop) (s:PS):PV->Prop
 | .sl es0 (.r n sz')=>sz'=sz/\ZA q fun es'=>(∀ e ∈ es,e.length=sz)/\(∀ e ∈ es',e.length=sz)/\(es.length+es'.length) * by_<=140737488355328/\es'≠[]/\cutP P h s0 n d (qE es/\qE es') (.sl (es++es') (.r n sz)) l K (za4 P h s0 d n sz i x es0 es y l K (.sl (es++es') (.r n sz)) s)
 | _=>False
def KB (P:Program) (fr:Prop) (h:List PI) (s0:PS) (d x sz by_:Nat) (y:PO) (q:PV) (l:List PI) (K:PS->Prop) (s:PS):PV->Prop
 | .sl es (.n sz')=>sz'=sz/\zae h x=true/\ZA q fun es'=>qE es/\qE es'/\(∀ e ∈ es,e.length=sz)/\(∀ e ∈ es',e.length=sz)/\(es.length+es'.length) * by_<=140737488355328/\es'≠[]/\zc P l K ((qC h s0).put (some d) (.sl (es++es') (.r d sz)))
 | .sl es (.p i)=>fr/\zae h x=true/\zgG P h s0 d i x sz by_ y es q l K s (s0.get i)
 | _=>zc P (⟨some d,none,.ap (.t x) y sz by_⟩::l) K s
theorem zbJ (h:List PI) (s0:PS) (d x sz by_:Nat) (y:PO) (l:List PI):qR P fr h s0 (⟨some d,none,.ap (.t x) y sz by_⟩::l) K s=KB P fr h s0 d x sz by_ y (s.ev y) l K s (s.get x):=by
 unfold qR KB
 simp only
 cases s.get x<;>rfl
theorem zgC (h:List PI) (s0:PS) (d x sz by_ sz':Nat) (y:PO) (q:PV) (l:List PI) (es:List (List PV)):KB P fr h s0 d x sz by_ y q l K s (.sl es (.n sz'))=(sz'=sz/\zae h x=true/\ZA q fun es'=>qE es/\qE es'/\(∀ e ∈ es,e.length=sz)/\(∀ e ∈ es',e.length=sz)/\(es.length+es'.length) * by_<=140737488355328/\es'≠[]/\zc P l K ((qC h s0).put (some d) (.sl (es++es') (.r d sz)))):=rfl
theorem zgD (h:List PI) (s0:PS) (d x sz by_ i:Nat) (y:PO) (q:PV) (l:List PI) (es:List (List PV)):KB P fr h s0 d x sz by_ y q l K s (.sl es (.p i))=(fr/\zae h x=true/\zgG P h s0 d i x sz by_ y es q l K s (s0.get i)):=rfl
theorem zgE (h:List PI) (s0:PS) (d x sz by_ n m:Nat) (y:PO) (q:PV) (l:List PI) (es:List (List PV)):KB P fr h s0 d x sz by_ y q l K s (.sl es (.r n m))=zc P (⟨some d,none,.ap (.t x) y sz by_⟩::l) K s:=rfl
theorem zgF (h:List PI) (s0:PS) (d x sz by_:Nat) (y:PO) (q:PV) (l:List PI) (es:List (List PV)):KB P fr h s0 d x sz by_ y q l K s (.sl es .z)=zc P (⟨some d,none,.ap (.t x) y sz by_⟩::l) K s:=rfl
theorem zgH (h:List PI) (s0:PS) (d i x sz by_ n sz':Nat) (y:PO) (es es0:List (List PV)) (q:PV) (l:List PI):zgG P h s0 d i x sz by_ y es q l K s (.sl es0 (.r n sz'))=(sz'=sz/\ZA q fun es'=>(∀ e ∈ es,e.length=sz)/\(∀ e ∈ es',e.length=sz)/\(es.length+es'.length) * by_<=140737488355328/\es'≠[]/\cutP P h s0 n d (qE es/\qE es') (.sl (es++es') (.r n sz)) l K (za4 P h s0 d n sz i x es0 es y l K (.sl (es++es') (.r n sz)) s)):=rfl
def bCt:Option PV->Prop
 | some _=>True
 | none=>False
theorem zah (p:PV):bCt (some p)=True:=Eq.trans rfl rfl
theorem zag:bCt none=False:=Eq.trans rfl rfl
def Jw (op:BinOp) (k:IntKind) (m n:Int):PV:=match op with
 | .add=>match k with | .i64=>.v (.int .i64 (m+n)) | k=>.v (.int k (k.wrap (m+n)))
 | .sub=>match k with | .i64=>.v (.int .i64 (m - n)) | k=>.v (.int k (k.wrap (m - n)))
 | .mul=>match k with | .i64=>.v (.int .i64 (m * n)) | k=>.v (.int k (k.wrap (m * n)))
 | .quo=>match k with | .i64=>.v (.int .i64 (m.tdiv n)) | k=>.v (.int k (k.wrap (m.tdiv n)))
 | .rem=>.v (.int k (m.tmod n))
 | .eql=>.v (.bool (decide (m=n)))
 | .neq=>.v (.bool (!decide (m=n)))
 | .lss=>.v (.bool (decide (m<n)))
 | .leq=>.v (.bool (decide (m<=n)))
 | .gtr=>.v (.bool (decide (n<m)))
 | .geq=>.v (.bool (decide (n<=m)))
 | .shr=>.v (.int k (zer k m n))
 | _=>.und
def rng (k:IntKind) (n:Int):Prop:=match k with
 | .i64 => -9223372036854775808<=n/\n<9223372036854775808
 | _=>True
def zdx (op:BinOp) (k:IntKind) (m n:Int):Prop:=match op with
 | .add=>rng k (m+n)
 | .sub=>rng k (m - n)
 | .mul=>rng k (m * n)
 | .quo=>n≠0/\rng k (m.tdiv n)
 | .rem=>n≠0
 | .shr=>0<=n
 | .eql | .neq | .lss | .leq | .gtr | .geq=>True
 | _=>False
def J3 (op:BinOp) (p q:PV):Prop:=match p,q with
 | .v (.int k a),.v (.int k' b)=>k=k'/\zdx op k a b
 | _,_=>False
def XZ (op:BinOp) (p q:PV):PV:=match p,q with
 | .v (.int k a),.v (.int _ b)=>Jw op k a b
 | _,_=>.und
theorem zej {k:IntKind} {n:Int} {K:PV->Prop}:JR k n K=(rng k n/\K (match k with | .i64=>.v (.int .i64 n) | k=>.v (.int k (k.wrap n)))):=by
 cases k<;>simp [JR,rng]
theorem zb7 {op:BinOp} {p q:PV} {K:PV->Prop}:ZB op p q K=(J3 op p q/\K (XZ op p q)):=by
 unfold ZB J3 XZ
 split
 ·rename_i k a k' b
  by_cases e:k=k'
  ·subst e
   cases op<;>simp [Yk,zdx,Jw,zej,and_assoc]
  ·simp [e]
 ·simp
def qQ:PV->Prop
 | .v (.bool _)=>True
 | _=>False
def bV:PV->Bool
 | .v (.bool c)=>c
 | _=>false
theorem xf {p:PV} {K:Bool->Prop}:qL p K=(qQ p/\K (bV p)):=by
 unfold qL qQ bV
 split<;>simp
def qa:PV->Prop
 | .v (.int _ _)=>True
 | _=>False
def iK:PV->IntKind
 | .v (.int k _)=>k
 | _=>.i64
def iV:PV->Int
 | .v (.int _ n)=>n
 | _=>0
theorem xh {p:PV} {K:IntKind->Int->Prop}:vg p K=(qa p/\K (iK p) (iV p)):=by
 unfold vg qa iK iV
 split<;>simp
def ye:PV->Prop
 | .sl _ _=>True
 | _=>False
def eV:PV->List (List PV)
 | .sl es _=>es
 | _=>[]
theorem vF {p:PV} {K:List (List PV)->Prop}:ZA p K=(ye p/\K (eV p)):=by
 unfold ZA ye eV
 split<;>simp
theorem zga (c:Bool):qQ (.v (.bool c))=True:=Eq.trans rfl rfl
theorem zkh (c:Bool):bV (.v (.bool c))=c:=Eq.trans rfl rfl
theorem zdD (k:IntKind) (n:Int):qa (.v (.int k n))=True:=Eq.trans rfl rfl
theorem zkP (k:IntKind) (n:Int):iK (.v (.int k n))=k:=Eq.trans rfl rfl
theorem zkQ (k:IntKind) (n:Int):iV (.v (.int k n))=n:=Eq.trans rfl rfl
theorem zgg (es:List (List PV)) (o:Ow):ye (.sl es o)=True:=Eq.trans rfl rfl
theorem zkl (es:List (List PV)) (o:Ow):eV (.sl es o)=es:=Eq.trans rfl rfl
theorem zfo (op:BinOp) (k k':IntKind) (m n:Int):J3 op (.v (.int k m)) (.v (.int k' n))=(k=k'/\zdx op k m n):=Eq.trans rfl rfl
theorem zfp (op:BinOp) (k k':IntKind) (m n:Int):XZ op (.v (.int k m)) (.v (.int k' n))=Jw op k m n:=Eq.trans rfl rfl
theorem zjJ (n:Int):rng .u64 n=True:=Eq.trans rfl rfl
def Jp:PV->Prop
 | .bx _ _=>True
 | .cp _ _=>True
 | _=>False
def K5 (off:Nat):PV->PV
 | .bx i o=>.bx i (o+off)
 | .cp cs o=>.cp cs (o+off)
 | _=>.und
theorem zhX (i o:Nat):Jp (.bx i o)=True:=Eq.trans rfl rfl
theorem zhY (cs:List PV) (o:Nat):Jp (.cp cs o)=True:=Eq.trans rfl rfl
theorem zhZ (n i o:Nat):K5 n (.bx i o)=.bx i (o+n):=Eq.trans rfl rfl
theorem zh0 (n:Nat) (cs:List PV) (o:Nat):K5 n (.cp cs o)=.cp cs (o+n):=Eq.trans rfl rfl
def Qd (cs:List PV) (o:Nat) (ag:Bool) (n:Nat):Prop:=match ag with
 | true=>o+n<=cs.length
 | false=>cs[o]?.isSome=true
def ZR (cs:List PV) (o:Nat) (ag:Bool) (n:Nat):PV:=match ag with
 | true=>.agg ((cs.drop o).take n)
 | false=>cs[o]?.getD .und
theorem Yj {cs:List PV} {o:Nat} {ag:Bool} {n:Nat} {K:PV->Prop}:Xo cs o ag n K=(Qd cs o ag n/\K (ZR cs o ag n)):=by
 cases ag
 ·simp only [Xo,Qd,ZR];cases cs[o]?<;>simp
 ·simp [Xo,Qd,ZR]
theorem zhz (cs:List PV) (o n:Nat):Qd cs o true n=(o+n<=cs.length):=Eq.trans rfl rfl
theorem zhy (cs:List PV) (o n:Nat):Qd cs o false n=(cs[o]?.isSome=true):=Eq.trans rfl rfl
theorem zhB (cs:List PV) (o n:Nat):ZR cs o true n=.agg ((cs.drop o).take n):=Eq.trans rfl rfl
theorem zhA (cs:List PV) (o n:Nat):ZR cs o false n=cs[o]?.getD .und:=Eq.trans rfl rfl
def ldC (bs:List (List PV)) (p:PV) (ag:Bool) (n:Nat):Prop:=match p with
 | .cp cs o=>Qd cs o ag n
 | .bx i o=>bs[i]?.isSome=true/\zW (((bs[i]?.getD []).drop o).take n)=true/\Qd (bs[i]?.getD []) o ag n
 | _=>False
def ldF (bs:List (List PV)) (p:PV):Prop:=match p with
 | .cp cs o=>Qd cs o false 1
 | .bx i o=>bs[i]?.isSome=true/\Qd (bs[i]?.getD []) o false 1
 | _=>False
theorem ziF (bs:List (List PV)) (cs:List PV) (o:Nat):ldF bs (.cp cs o)=Qd cs o false 1:=Eq.trans rfl rfl
theorem ziE (bs:List (List PV)) (i o:Nat):ldF bs (.bx i o)=(bs[i]?.isSome=true/\Qd (bs[i]?.getD []) o false 1):=Eq.trans rfl rfl
def ldV (bs:List (List PV)) (p:PV) (ag:Bool) (n:Nat):PV:=match p with
 | .cp cs o=>ZR cs o ag n
 | .bx i o=>ZR (bs[i]?.getD []) o ag n
 | _=>.und
theorem ziC (bs:List (List PV)) (cs:List PV) (o:Nat) (ag:Bool) (n:Nat):ldC bs (.cp cs o) ag n=Qd cs o ag n:=Eq.trans rfl rfl
theorem ziB (bs:List (List PV)) (i o n:Nat) (ag:Bool):ldC bs (.bx i o) ag n=(bs[i]?.isSome=true/\zW (((bs[i]?.getD []).drop o).take n)=true/\Qd (bs[i]?.getD []) o ag n):=Eq.trans rfl rfl
theorem ziH (bs:List (List PV)) (cs:List PV) (o:Nat) (ag:Bool) (n:Nat):ldV bs (.cp cs o) ag n=ZR cs o ag n:=Eq.trans rfl rfl
theorem ziG (bs:List (List PV)) (i o:Nat) (ag:Bool) (n:Nat):ldV bs (.bx i o) ag n=ZR (bs[i]?.getD []) o ag n:=Eq.trans rfl rfl
def qp:PV->Prop
 | .agg _=>True
 | .v x=>x.oneCell'=true
 | .sl _ _=>True
 | .cp _ _=>True
 | .bx _ _=>True
 | .fn _ _ _=>True
 | .ifc _ _=>True
 | _=>False
def qh:PV->List PV
 | .agg cs=>cs
 | p=>[p]
theorem xE {p:PV} {K:List PV->Prop}:qM p K=(qp p/\K (qh p)):=by
 cases p<;>simp [qM,qp,qh]
theorem X3 (cs:List PV):qp (.agg cs)=True:=Eq.trans rfl rfl
theorem zaq (k:IntKind) (n:Int):qp (.v (.int k n))=True:=by simp [qp,Value.oneCell']
theorem zap (c:Bool):qp (.v (.bool c))=True:=by simp [qp,Value.oneCell']
theorem X5:qp (.v .nilIface)=True:=by simp [qp,Value.oneCell']
theorem zar (es:List (List PV)) (o:Ow):qp (.sl es o)=True:=Eq.trans rfl rfl
theorem J5 (i o:Nat):qp (.bx i o)=True:=Eq.trans rfl rfl
theorem J6 (f:Fn) (x y:List PV):qp (.fn f x y)=True:=Eq.trans rfl rfl
theorem X4 (t:TypeId) (x:PV):qp (.ifc t x)=True:=Eq.trans rfl rfl
theorem X6 (cs:List PV):qh (.agg cs)=cs:=Eq.trans rfl rfl
theorem zat (x:Value):qh (.v x)=[.v x]:=Eq.trans rfl rfl
theorem zas (es:List (List PV)) (o:Ow):qh (.sl es o)=[.sl es o]:=Eq.trans rfl rfl
theorem J7 (i o:Nat):qh (.bx i o)=[.bx i o]:=Eq.trans rfl rfl
theorem J8 (f:Fn) (x y:List PV):qh (.fn f x y)=[.fn f x y]:=Eq.trans rfl rfl
theorem X7 (t:TypeId) (x:PV):qh (.ifc t x)=[.ifc t x]:=Eq.trans rfl rfl
def x9 (s:PS):List (Nat × Nat × PO)->List PV->Prop
 | [],_=>True
 | (off,n,x)::r,zs=>qp (s.ev x)/\(qh (s.ev x)).length=n/\off+n<=zs.length/\zW (qh (s.ev x))=true/\x9 s r (YD zs ((qh (s.ev x)).map PV.sh) off)
def xD (s:PS):List (Nat × Nat × PO)->List PV->List PV
 | [],zs=>zs
 | (off,_,x)::r,zs=>xD s r (YD zs ((qh (s.ev x)).map PV.sh) off)
theorem Zz {K:List PV->Prop}:∀(ps:List (Nat × Nat × PO)) (zs:List PV),vh s ps zs K=(x9 s ps zs/\K (xD s ps zs))
 | [],zs=>by simp [vh,x9,xD]
 | (off,n,x)::r,zs=>by simp [vh,x9,xD,xE,Zz r,and_assoc]
def xZ (s:PS) (sz:Nat):List PO->Prop
 | []=>True
 | x::r=>qp (s.ev x)/\(qh (s.ev x)).length=sz/\zW (qh (s.ev x))=true/\xZ s sz r
def xy (s:PS):List PO->List (List PV)
 | []=>[]
 | x::r=>(qh (s.ev x)).map PV.sh::xy s r
theorem v9 {sz:Nat}:∀(ps:List PO) (K:List (List PV)->Prop),yC s sz ps K=(xZ s sz ps/\K (xy s ps))
 | [],K=>by simp [yC,xZ,xy]
 | x::r,K=>by simp [yC,xZ,xy,xE,v9 r,and_assoc]
def bdC (s:PS):Option PO->Prop
 | none=>True
 | some y=>qa (s.ev y)/\0<=iV (s.ev y)
def Jd (s:PS) (n:Nat):Option PO->Nat
 | none=>n
 | some y=>(iV (s.ev y)).toNat
theorem JP {y:Option PO} {n:Nat} {K:Nat->Prop}:KI s y n K=(bdC s y/\K (Jd s n y)):=by
 cases y<;>simp [KI,bdC,Jd,xh,and_assoc]
def callP (P:Program) (f:FuncId) (xs:List PV) (K:PS->Prop) (d:Option Nat) (s:PS):Prop:=∃ r,Cn P f xs r/\zW xs=true/\K (s.put d r)
def callQ (P:Program) (f:FuncId) (xs:List PV) (K:PS->Prop) (d:Option Nat) (s:PS):Prop:=∃ r,Cn P f xs r/\zW xs=true/\K (s.put d r.strip)
def callO (P:Program) (f:FuncId) (es:List (List PV)) (n sz:Nat) (xs:List PV) (K:PS->Prop) (d:Option Nat) (s:PS):Prop:=callP P f (.sl es .sh::xs) K d s\/∃ rs,OCn P f es sz xs rs/\zW xs=true/\K ((s.down n).put d (.sl rs (.r n sz)))
theorem callP.mk {f:FuncId} {xs:List PV} {r:PV} (h:Cn P f xs r) (hd:zW xs=true) (hk:K (s.put d r)):callP P f xs K d s:=⟨r,h,hd,hk⟩
theorem callQ.mk {f:FuncId} {xs:List PV} {r:PV} (h:Cn P f xs r) (hd:zW xs=true) (hk:K (s.put d r.strip)):callQ P f xs K d s:=⟨r,h,hd,hk⟩
theorem callO.mk {f:FuncId} {es rs:List (List PV)} {n sz:Nat} {xs:List PV} (h:OCn P f es sz xs rs) (hd:zW xs=true) (hk:K ((s.down n).put d (.sl rs (.r n sz)))):callO P f es n sz xs K d s:=.inr ⟨rs,h,hd,hk⟩
theorem callO.rd {f:FuncId} {es:List (List PV)} {n sz:Nat} {xs:List PV} {r:PV} (h:Cn P f (.sl es .sh::xs) r) (hd:zW xs=true) (hk:K (s.put d r)):callO P f es n sz xs K d s:=.inl ⟨r,h,by simpa [zW,PV.isD] using hd,hk⟩
def jT (s:PS) (xs:List PO):List PV:=xs.map fun x=>(s.ev x).sh
theorem zdn:jT s []=[]:=Eq.trans rfl rfl
theorem zaZ (x:PO) (xs:List PO):jT s (x::xs)=(s.ev x).sh::jT s xs:=Eq.trans rfl rfl
def caD (P:Program) (f:FuncId) (p:PV) (xs:List PV) (K:PS->Prop) (d:Option Nat) (s:PS):Prop:=match p with
 | .sl es (.r n sz)=>callO P f es n sz xs K d s
 | p=>callP P f (p.sh::xs) K d s
def brP (c:PV) (X Y:PS->Prop) (s:PS):Prop:=qQ c/\if bV c=true then X s else Y s
theorem zi9 (c:PO) (x y:PC):pW P nt fr (.cd c x y) Q s=brP (s.ev c) (pW P nt fr x Q) (pW P nt fr y Q) s:=by
 show qL _ _=_
 rw [xf]
 unfold brP
 cases bV (s.ev c)<;>simp
theorem zeS (X Y:PS->Prop):brP (.v (.bool true)) X Y s=X s:=by simp [brP,qQ,bV]
theorem zeR (X Y:PS->Prop):brP (.v (.bool false)) X Y s=Y s:=by simp [brP,qQ,bV]
theorem brP.mk {c:Bool} {X Y:PS->Prop} (h1:c=true->X s) (h2:c=false->Y s):brP (.v (.bool c)) X Y s:=by
 refine⟨trivial,?_⟩
 cases c
 ·exact h2 rfl
 ·exact h1 rfl
theorem brP.yes {c:Bool} {X Y:PS->Prop} (h:c=true) (h1:X s):brP (.v (.bool c)) X Y s:=by subst h;rw [zeS];exact h1
theorem brP.no {c:Bool} {X Y:PS->Prop} (h:c=false) (h1:Y s):brP (.v (.bool c)) X Y s:=by subst h;rw [zeR];exact h1
def JK:PV->Prop
 | .v (.bool _)=>True
 | .v (.tuple vs)=>vs=#[]
 | _=>False
def wq (p:PV) (b:Bool):Prop:=match p with
 | .v (.bool c)=>c=b
 | _=>False
instance (p:PV) (b:Bool):Decidable (wq p b):=by unfold wq;split<;>infer_instance
def noS (s:PS) (i:Nat) (b:Bool):PV->PS
 | .v (.bool _)=>s.put (some i) (.v (.bool !b))
 | _=>s
theorem ziX (c:Bool):JK (.v (.bool c))=True:=Eq.trans rfl rfl
theorem ziY:JK (.v undef)=True:=by simp [JK,undef]
theorem zlF (c b:Bool):wq (.v (.bool c)) b=(c=b):=Eq.trans rfl rfl
theorem zlG (b:Bool):wq (.v undef) b=False:=by simp [wq,undef]
theorem ziT (i:Nat) (b c:Bool):noS s i b (.v (.bool c))=s.put (some i) (.v (.bool !b)):=Eq.trans rfl rfl
theorem ziU (i:Nat) (b:Bool):noS s i b (.v undef)=s:=Eq.trans rfl rfl
theorem Qm {i:Nat} {b:Bool} {k:PK} {yes no:PS->Prop}:PI.guard ⟨d,some (i,b),k⟩ s yes no=(JK (s.get i)/\if wq (s.get i) b then yes (s.put (some i) (.v (.bool b))) else no (noS s i b (s.get i))):=by
 unfold PI.guard
 simp only
 cases h:s.get i with
 | v x=>
   cases x<;>try (simp [JK];done)
   ·rename_i c
    simp only [JK,wq,noS,true_and]
    cases c<;>cases b<;>simp
   ·simp [JK,wq,noS]
 | _=>simp [JK]
def gdP (g:PV) (i:Nat) (b:Bool) (d:Option Nat) (X Y:PS->Prop) (s:PS):Prop:=JK g/\if wq g b then X (s.put (some i) (.v (.bool b))) else Y ((noS s i b g).put d (.v undef))
theorem Vx (i:Nat) (b:Bool) (k:PK):zc P (⟨d,some (i,b),k⟩::l) K s=gdP (s.get i) i b d (zc P (⟨d,none,k⟩::l) K) (zc P l K) s:=Qm
theorem Vw (i:Nat) (b:Bool) (k:PK):ze P (⟨d,some (i,b),k⟩::l) K s=gdP (s.get i) i b d (ze P (⟨d,none,k⟩::l) K) (ze P l K) s:=Qm
theorem zfV (i:Nat) (X Y:PS->Prop):gdP (.v (.bool true)) i true d X Y s=X (s.put (some i) (.v (.bool true))):=by simp [gdP,JK,wq]
theorem zfS (i:Nat) (X Y:PS->Prop):gdP (.v (.bool false)) i false d X Y s=X (s.put (some i) (.v (.bool false))):=by simp [gdP,JK,wq]
theorem zfU (i:Nat) (X Y:PS->Prop):gdP (.v (.bool true)) i false d X Y s=Y ((s.put (some i) (.v (.bool true))).put d (.v undef)):=by simp [gdP,JK,wq,noS]
theorem zfT (i:Nat) (X Y:PS->Prop):gdP (.v (.bool false)) i true d X Y s=Y ((s.put (some i) (.v (.bool false))).put d (.v undef)):=by simp [gdP,JK,wq,noS]
theorem zh8 (i:Nat) (b:Bool) (X Y:PS->Prop):gdP (.v undef) i b d X Y s=Y (s.put d (.v undef)):=by simp [gdP,JK,wq,noS,undef]
theorem gdP.mkt {c:Bool} {i:Nat} {X Y:PS->Prop} (h1:c=true->X (s.put (some i) (.v (.bool true)))) (h2:c=false->Y ((s.put (some i) (.v (.bool false))).put d (.v undef))):gdP (.v (.bool c)) i true d X Y s:=by
 refine⟨trivial,?_⟩
 cases c<;>simp [wq,noS]<;>first | exact h1 rfl | exact h2 rfl
theorem gdP.mkf {c:Bool} {i:Nat} {X Y:PS->Prop} (h1:c=true->Y ((s.put (some i) (.v (.bool true))).put d (.v undef))) (h2:c=false->X (s.put (some i) (.v (.bool false)))):gdP (.v (.bool c)) i false d X Y s:=by
 refine⟨trivial,?_⟩
 cases c<;>simp [wq,noS]<;>first | exact h1 rfl | exact h2 rfl
theorem zb0 (op:BinOp) (x y:PO) {Kv:PV->Prop}:PK.q P s (.bin op x y) Kv=(J3 op (s.ev x) (s.ev y)/\Kv (XZ op (s.ev x) (s.ev y))):=by
 simp only [PK.q,zb7]
theorem zbZ (n:Bool) (x y:PO) {Kv:PV->Prop}:PK.q P s (.beq n x y) Kv=((qQ (s.ev x)/\qQ (s.ev y))/\Kv (.v (.bool (n != (bV (s.ev x) == bV (s.ev y)))))):=by
 simp only [PK.q,xf,and_assoc]
theorem zb5 (x:PO) {Kv:PV->Prop}:PK.q P s (.not x) Kv=(qQ (s.ev x)/\Kv (.v (.bool (!bV (s.ev x))))):=by
 simp only [PK.q,xf]
theorem ze6 (k:IntKind) (x:PO) {Kv:PV->Prop}:PK.q P s (.cv k x) Kv=(qa (s.ev x)/\Kv (.v (.int k (k.wrap (iV (s.ev x)))))):=by
 simp only [PK.q,xh]
theorem ze8 (x:PO) (o:Nat) {Kv:PV->Prop}:PK.q P s (.fa x o) Kv=(Jp (s.ev x)/\Kv (K5 o (s.ev x))):=by
 simp only [PK.q]
 cases s.ev x<;>simp [Jp,K5]
theorem zfa (x y:PO) (n:Nat) {Kv:PV->Prop}:PK.q P s (.ia x y n) Kv=((ye (s.ev x)/\qa (s.ev y)/\0<=iV (s.ev y)/\(eV (s.ev x))[(iV (s.ev y)).toNat]?.map List.length=some n)/\Kv (.cp ((eV (s.ev x))[(iV (s.ev y)).toNat]?.getD []) 0)):=by
 simp only [PK.q,vF,xh,and_assoc]
 cases h:(eV (s.ev x))[(iV (s.ev y)).toNat]?<;>simp [h]
theorem zb2 (x:PO) (ag:Bool) (n:Nat) {Kv:PV->Prop}:PK.q P s (.ld x ag n) Kv=(ldC s.b (s.ev x) ag n/\Kv ((ldV s.b (s.ev x) ag n).strip)):=by
 simp only [PK.q]
 cases s.ev x<;>simp only [ldC,ldV,Yj,false_and]
 rename_i i o
 cases s.b[i]?<;>simp [and_assoc]
theorem zfc (x:PO) {Kv:PV->Prop}:PK.q P s (.ln x) Kv=(ye (s.ev x)/\Kv (.v (.int .i64 (eV (s.ev x)).length))):=by
 simp only [PK.q,vF]
theorem ze5 (zs:List PV) (ps:List (Nat × Nat × PO)) {Kv:PV->Prop}:PK.q P s (.bd zs ps) Kv=(x9 s ps zs/\Kv (.agg (xD s ps zs))):=by
 simp only [PK.q,Zz]
theorem zjv (n:Nat) (ps:List PO) {Kv:PV->Prop}:PK.q P s (.bs n ps) Kv=(xZ s n ps/\Kv (.sl (xy s ps) .z)):=by
 simp only [PK.q,v9]
theorem ziu (op:BinOp) (x y:PO):zc P (⟨d,none,.bin op x y⟩::l) K s=(J3 op (s.ev x) (s.ev y)/\zc P l K (s.put d (XZ op (s.ev x) (s.ev y)))):=zb0 (P:=P) (s:=s) op x y (Kv:=fun p=>zc P l K (s.put d p))
theorem zia (op:BinOp) (x y:PO):ze P (⟨d,none,.bin op x y⟩::l) K s=(J3 op (s.ev x) (s.ev y)/\PV.own (XZ op (s.ev x) (s.ev y))=none/\ze P l K (s.put d (XZ op (s.ev x) (s.ev y)))):=zb0 (P:=P) (s:=s) op x y (Kv:=fun p=>p.own=none/\ze P l K (s.put d p))
theorem zit (n:Bool) (x y:PO):zc P (⟨d,none,.beq n x y⟩::l) K s=((qQ (s.ev x)/\qQ (s.ev y))/\zc P l K (s.put d (.v (.bool (n != (bV (s.ev x) == bV (s.ev y))))))):=zbZ (P:=P) (s:=s) n x y (Kv:=fun p=>zc P l K (s.put d p))
theorem zh9 (n:Bool) (x y:PO):ze P (⟨d,none,.beq n x y⟩::l) K s=((qQ (s.ev x)/\qQ (s.ev y))/\PV.own (.v (.bool (n != (bV (s.ev x) == bV (s.ev y)))))=none/\ze P l K (s.put d (.v (.bool (n != (bV (s.ev x) == bV (s.ev y))))))):=zbZ (P:=P) (s:=s) n x y (Kv:=fun p=>p.own=none/\ze P l K (s.put d p))
theorem ziA (x:PO):zc P (⟨d,none,.not x⟩::l) K s=(qQ (s.ev x)/\zc P l K (s.put d (.v (.bool (!bV (s.ev x)))))):=zb5 (P:=P) (s:=s) x (Kv:=fun p=>zc P l K (s.put d p))
theorem zie (x:PO):ze P (⟨d,none,.not x⟩::l) K s=(qQ (s.ev x)/\PV.own (.v (.bool (!bV (s.ev x))))=none/\ze P l K (s.put d (.v (.bool (!bV (s.ev x)))))):=zb5 (P:=P) (s:=s) x (Kv:=fun p=>p.own=none/\ze P l K (s.put d p))
theorem zk2 (k:IntKind) (x:PO):zc P (⟨d,none,.cv k x⟩::l) K s=(qa (s.ev x)/\zc P l K (s.put d (.v (.int k (k.wrap (iV (s.ev x))))))):=ze6 (P:=P) (s:=s) k x (Kv:=fun p=>zc P l K (s.put d p))
theorem zkC (k:IntKind) (x:PO):ze P (⟨d,none,.cv k x⟩::l) K s=(qa (s.ev x)/\PV.own (.v (.int k (k.wrap (iV (s.ev x)))))=none/\ze P l K (s.put d (.v (.int k (k.wrap (iV (s.ev x))))))):=ze6 (P:=P) (s:=s) k x (Kv:=fun p=>p.own=none/\ze P l K (s.put d p))
theorem zk3 (x:PO) (o:Nat):zc P (⟨d,none,.fa x o⟩::l) K s=(Jp (s.ev x)/\zc P l K (s.put d (K5 o (s.ev x)))):=ze8 (P:=P) (s:=s) x o (Kv:=fun p=>zc P l K (s.put d p))
theorem zkD (x:PO) (o:Nat):ze P (⟨d,none,.fa x o⟩::l) K s=(Jp (s.ev x)/\PV.own (K5 o (s.ev x))=none/\ze P l K (s.put d (K5 o (s.ev x)))):=ze8 (P:=P) (s:=s) x o (Kv:=fun p=>p.own=none/\ze P l K (s.put d p))
theorem zk5 (x y:PO) (n:Nat):zc P (⟨d,none,.ia x y n⟩::l) K s=((ye (s.ev x)/\qa (s.ev y)/\0<=iV (s.ev y)/\(eV (s.ev x))[(iV (s.ev y)).toNat]?.map List.length=some n)/\zc P l K (s.put d (.cp ((eV (s.ev x))[(iV (s.ev y)).toNat]?.getD []) 0))):=zfa (P:=P) (s:=s) x y n (Kv:=fun p=>zc P l K (s.put d p))
theorem zkF (x y:PO) (n:Nat):ze P (⟨d,none,.ia x y n⟩::l) K s=((ye (s.ev x)/\qa (s.ev y)/\0<=iV (s.ev y)/\(eV (s.ev x))[(iV (s.ev y)).toNat]?.map List.length=some n)/\PV.own (.cp ((eV (s.ev x))[(iV (s.ev y)).toNat]?.getD []) 0)=none/\ze P l K (s.put d (.cp ((eV (s.ev x))[(iV (s.ev y)).toNat]?.getD []) 0))):=zfa (P:=P) (s:=s) x y n (Kv:=fun p=>p.own=none/\ze P l K (s.put d p))
theorem zkH (x:PO) (ag:Bool) (n:Nat):ze P (⟨d,none,.ld x ag n⟩::l) K s=(ldC s.b (s.ev x) ag n/\PV.own ((ldV s.b (s.ev x) ag n).strip)=none/\ze P l K (s.put d ((ldV s.b (s.ev x) ag n).strip))):=zb2 (P:=P) (s:=s) x ag n (Kv:=fun p=>p.own=none/\ze P l K (s.put d p))
theorem zk7 (x:PO):zc P (⟨d,none,.ln x⟩::l) K s=(ye (s.ev x)/\zc P l K (s.put d (.v (.int .i64 (eV (s.ev x)).length)))):=zfc (P:=P) (s:=s) x (Kv:=fun p=>zc P l K (s.put d p))
theorem zkI (x:PO):ze P (⟨d,none,.ln x⟩::l) K s=(ye (s.ev x)/\PV.own (.v (.int .i64 (eV (s.ev x)).length))=none/\ze P l K (s.put d (.v (.int .i64 (eV (s.ev x)).length)))):=zfc (P:=P) (s:=s) x (Kv:=fun p=>p.own=none/\ze P l K (s.put d p))
theorem zkX (zs:List PV) (ps:List (Nat × Nat × PO)):zc P (⟨d,none,.bd zs ps⟩::l) K s=(x9 s ps zs/\zc P l K (s.put d (.agg (xD s ps zs)))):=ze5 (P:=P) (s:=s) zs ps (Kv:=fun p=>zc P l K (s.put d p))
theorem zky (zs:List PV) (ps:List (Nat × Nat × PO)):ze P (⟨d,none,.bd zs ps⟩::l) K s=(x9 s ps zs/\PV.own (.agg (xD s ps zs))=none/\ze P l K (s.put d (.agg (xD s ps zs)))):=ze5 (P:=P) (s:=s) zs ps (Kv:=fun p=>p.own=none/\ze P l K (s.put d p))
theorem zkZ (i n:Nat) (ps:List PO):zc P (⟨some i,none,.bs n ps⟩::l) K s=(xZ s n ps/\zc P l K (s.put (some i) (.sl (xy s ps) (.r i n)))):=by
 show PK.e P (.bs n ps) (some i) s (zc P l K)=_
 simp only [PK.e,v9]
theorem zkz (n:Nat) (ps:List PO):ze P (⟨d,none,.bs n ps⟩::l) K s=(xZ s n ps/\PV.own (.sl (xy s ps) .z)=none/\ze P l K (s.put d (.sl (xy s ps) .z))):=zjv (P:=P) (s:=s) n ps (Kv:=fun p=>p.own=none/\ze P l K (s.put d p))
theorem ziy (x:PO) (n:Nat):zc P (⟨d,none,.ld x true n⟩::l) K s=(ldC s.b (s.ev x) true n/\zc P l K (s.put d (ldV s.b (s.ev x) true n).strip)):=zb2 (P:=P) (s:=s) x true n (Kv:=fun p=>zc P l K (s.put d p))
def ldW (bs:List (List PV)) (p:PV):PV:=match p with
 | .cp cs o=>(ZR cs o false 1).strip
 | .bx i o=>ZR (bs[i]?.getD []) o false 1
 | _=>.und
theorem ziJ (bs:List (List PV)) (cs:List PV) (o:Nat):ldW bs (.cp cs o)=(ZR cs o false 1).strip:=Eq.trans rfl rfl
theorem ziI (bs:List (List PV)) (i o:Nat):ldW bs (.bx i o)=ZR (bs[i]?.getD []) o false 1:=Eq.trans rfl rfl
theorem zix (x:PO):zc P (⟨d,none,.ld x false 1⟩::l) K s=(ldF s.b (s.ev x)/\zc P l K (s.put d (ldW s.b (s.ev x)))):=by
 show PK.e P (.ld x false 1) d s (zc P l K)=_
 simp only [PK.e]
 split
 ·rename_i i o h
  rw [h]
  simp only [ldF,ldW,Qd,ZR]
  cases s.b[i]? with
  | none=>simp
  | some cs=>cases hc:cs[o]?<;>simp [hc]
 ·rename_i h
  rw [zb2]
  cases hx:s.ev x<;>first | rfl | exact absurd hx (h _ _) | (simp [ldC,ldF];done)
theorem zgl (i:Nat):zc P (⟨d,none,.mv (.t i)⟩::l) K s=zc P l K (s.put d (s.get i)):=Eq.trans rfl rfl
theorem zgj (p:PV):zc P (⟨d,none,.mv (.c p)⟩::l) K s=zc P l K (s.put d p.strip):=Eq.trans rfl rfl
theorem zgk (f:FuncId):zc P (⟨d,none,.mv (.f f)⟩::l) K s=zc P l K (s.put d (.fn (.func f) [] [])):=Eq.trans rfl rfl
theorem zfY (i:Nat):ze P (⟨d,none,.mv (.t i)⟩::l) K s=(((s.get i).pre i).own=none/\ze P l K (s.put d ((s.get i).pre i))):=Eq.trans rfl rfl
theorem zfW (p:PV):ze P (⟨d,none,.mv (.c p)⟩::l) K s=(p.strip.own=none/\ze P l K (s.put d p.strip)):=Eq.trans rfl rfl
theorem zfX (f:FuncId):ze P (⟨d,none,.mv (.f f)⟩::l) K s=ze P l K (s.put d (.fn (.func f) [] [])):=by
 show (_=none/\_)=_
 simp only [PS.ev,PV.strip,PV.own,true_and]
def pkP (c:PV) (X Y:PS->Prop) (s:PS):Prop:=qQ c/\if bV c=true then X s else Y s
theorem zlc (c x y:PO):zc P (⟨d,none,.pk c x y⟩::l) K s=pkP (s.ev c) (fun s'=>zc P l K (s'.put d (s'.ev x).strip)) (fun s'=>zc P l K (s'.put d (s'.ev y).strip)) s:=by
 show qL _ _=_
 rw [xf]
 unfold pkP
 cases bV (s.ev c)<;>simp
theorem zkN (c x y:PO):ze P (⟨d,none,.pk c x y⟩::l) K s=pkP (s.ev c) (fun s'=>ze P l K (s'.put d (s'.ev x).strip)) (fun s'=>ze P l K (s'.put d (s'.ev y).strip)) s:=by
 show qL _ _=_
 rw [xf]
 unfold pkP
 cases bV (s.ev c)<;>simp [PV.strip_own]
theorem zjj (X Y:PS->Prop):pkP (.v (.bool true)) X Y s=X s:=by simp [pkP,qQ,bV]
theorem zji (X Y:PS->Prop):pkP (.v (.bool false)) X Y s=Y s:=by simp [pkP,qQ,bV]
theorem pkP.mk {c:Bool} {X Y:PS->Prop} (h1:c=true->X s) (h2:c=false->Y s):pkP (.v (.bool c)) X Y s:=by
 refine⟨trivial,?_⟩
 cases c
 ·exact h2 rfl
 ·exact h1 rfl
def eqC (m:Nat) (p q:PV):Prop:=match p,q with
 | .agg xs,.agg ys=>xs.length=m/\vM xs ys
 | _,_=>False
def eqB (p q:PV):Bool:=match p,q with
 | .agg xs,.agg ys=>xz xs ys
 | _,_=>false
theorem zhU (m:Nat) (xs ys:List PV):eqC m (.agg xs) (.agg ys)=(xs.length=m/\vM xs ys):=Eq.trans rfl rfl
theorem zhS (xs ys:List PV):eqB (.agg xs) (.agg ys)=xz xs ys:=Eq.trans rfl rfl
theorem zdk:vM [] []=True:=Eq.trans rfl rfl
theorem zaW (k k':IntKind) (a b:Int) (r r':List PV):vM (.v (.int k a)::r) (.v (.int k' b)::r')=(k=k'/\vM r r'):=by rw [vM]
theorem zdl:xz [] []=true:=Eq.trans rfl rfl
theorem zaX (k k':IntKind) (a b:Int) (r r':List PV):xz (.v (.int k a)::r) (.v (.int k' b)::r')=(decide (a=b) && xz r r'):=by rw [xz]
theorem zb1 (n:Bool) (x y:PO) (m:Nat) {Kv:PV->Prop}:PK.q P s (.eq2 n x y m) Kv=(eqC m (s.ev x) (s.ev y)/\Kv (.v (.bool (n != eqB (s.ev x) (s.ev y))))):=by
 simp only [PK.q]
 generalize s.ev x=p
 generalize s.ev y=q
 unfold KK eqC eqB
 cases p<;>cases q<;>simp
def nlC:PV->Prop
 | .v .nilIface=>True
 | .ifc _ _=>True
 | _=>False
def nlB:PV->Bool
 | .v .nilIface=>true
 | _=>false
theorem ziR:nlC (.v .nilIface)=True:=Eq.trans rfl rfl
theorem ziQ (t:TypeId) (x:PV):nlC (.ifc t x)=True:=Eq.trans rfl rfl
theorem ziP:nlB (.v .nilIface)=true:=Eq.trans rfl rfl
theorem ziO (t:TypeId) (x:PV):nlB (.ifc t x)=false:=Eq.trans rfl rfl
theorem zb4 (n:Bool) (x:PO) {Kv:PV->Prop}:PK.q P s (.nil n x) Kv=(nlC (s.ev x)/\Kv (.v (.bool (n != nlB (s.ev x))))):=by
 simp only [PK.q]
 cases s.ev x<;>simp [nlC,nlB]
 rename_i v
 cases v<;>simp [nlC,nlB]
theorem zff (x:PO) {Kv:PV->Prop}:PK.q P s (.nc x) Kv=(Jp (s.ev x)/\Kv (s.ev x)):=by
 simp only [PK.q]
 cases s.ev x<;>simp [Jp]
theorem zfe (m:Bool) (x y:PO) {Kv:PV->Prop}:PK.q P s (.mm m x y) Kv=((qa (s.ev x)/\qa (s.ev y)/\iK (s.ev x)=iK (s.ev y))/\Kv (.v (.int (iK (s.ev x)) (if m then (if iV (s.ev y) > iV (s.ev x) then iV (s.ev y) else iV (s.ev x)) else (if iV (s.ev y)<iV (s.ev x) then iV (s.ev y) else iV (s.ev x)))))):=by
 simp only [PK.q,xh,and_assoc]
theorem ze4 (x y:PO) (n sz:Nat) {Kv:PV->Prop}:PK.q P s (.aa x y n sz) Kv=((qa (s.ev y)/\0<=iV (s.ev y)/\iV (s.ev y)<n/\Jp (s.ev x))/\Kv (K5 ((iV (s.ev y)).toNat * sz) (s.ev x))):=by
 simp only [PK.q,xh,and_assoc]
 cases s.ev x<;>simp [Jp,K5]
def agC:PV->Prop
 | .agg _=>True
 | _=>False
def YG:PV->List PV
 | .agg cs=>cs
 | _=>[]
theorem zhm (cs:List PV):agC (.agg cs)=True:=Eq.trans rfl rfl
theorem zhn (cs:List PV):YG (.agg cs)=cs:=Eq.trans rfl rfl
theorem zfb (x y:PO) (n:Nat) (ag:Bool) (sz:Nat) {Kv:PV->Prop}:PK.q P s (.ix x y n ag sz) Kv=((qa (s.ev y)/\0<=iV (s.ev y)/\iV (s.ev y)<n/\agC (s.ev x)/\Qd (YG (s.ev x)) ((iV (s.ev y)).toNat * sz) ag sz)/\Kv (ZR (YG (s.ev x)) ((iV (s.ev y)).toNat * sz) ag sz).strip):=by
 simp only [PK.q,xh,and_assoc]
 cases s.ev x<;>simp [agC,YG,Yj,and_assoc]
theorem ze9 (x:PO) (o:Nat) (ag:Bool) (n:Nat) {Kv:PV->Prop}:PK.q P s (.fl x o ag n) Kv=((agC (s.ev x)/\Qd (YG (s.ev x)) o ag n)/\Kv (ZR (YG (s.ev x)) o ag n).strip):=by
 simp only [PK.q]
 cases s.ev x<;>simp [agC,YG,Yj]
def K7 (ps:List PV):Bool:=ps.all fun p=>p.isD || p.isB
theorem zdN:K7 []=true:=Eq.trans rfl rfl
theorem zbt (p:PV) (l:List PV):K7 (p::l)=((p.isD || p.isB) && K7 l):=Eq.trans rfl rfl
theorem zig (x:Value):PV.isB (.v x)=false:=Eq.trans rfl rfl
theorem zf8 (es:List (List PV)) (o:Ow):PV.isB (.sl es o)=false:=Eq.trans rfl rfl
theorem zdy (cs:List PV):PV.isB (.agg cs)=false:=Eq.trans rfl rfl
theorem zf5 (i o:Nat):PV.isB (.bx i o)=true:=Eq.trans rfl rfl
theorem zf6 (cs:List PV) (o:Nat):PV.isB (.cp cs o)=false:=Eq.trans rfl rfl
theorem zf7 (f:Fn) (x y:List PV):PV.isB (.fn f x y)=false:=Eq.trans rfl rfl
theorem zdz (t:TypeId) (x:PV):PV.isB (.ifc t x)=false:=Eq.trans rfl rfl
theorem zgb (i o:Nat):PV.isD (.bx i o)=false:=Eq.trans rfl rfl
theorem zgd (f:Fn) (x y:List PV):PV.isD (.fn f x y)=(x.all (fun p=>!p.isB) && y.all (fun p=>!p.isB)):=Eq.trans rfl rfl
theorem zb3 (f:Fn) (fs cs:List PO) {Kv:PV->Prop}:PK.q P s (.mf f fs cs) Kv=((K7 (jT s fs) && K7 (jT s cs))=true/\Kv (.fn f (jT s fs) (jT s cs))):=by
 simp only [PK.q,K7,jT,List.all_map]
 rfl
theorem zfd (t:TypeId) (x:PO) {Kv:PV->Prop}:PK.q P s (.mi t x) Kv=((s.ev x).isD=true/\Kv (.ifc t (s.ev x).sh)):=by
 simp only [PK.q]
 cases (s.ev x).isD<;>simp
def clP (P:Program) (p:PV) (xs:List PV) (K:PS->Prop) (d:Option Nat) (s:PS):Prop:=match p with
 | .fn (.func f) fs cs=>callQ P f (fs++xs++cs) K d s
 | _=>False
theorem zhK (f:FuncId) (fs cs xs:List PV):clP P (.fn (.func f) fs cs) xs K d s=callQ P f (fs++xs++cs) K d s:=Eq.trans rfl rfl
theorem zk1 (y:PO) (xs:List PO):zc P (⟨d,none,.cl y xs⟩::l) K s=clP P (s.ev y) (jT s xs) (zc P l K) d s:=by
 show PK.q P s (.cl y xs) (fun p=>zc P l K (s.put d p))=_
 simp only [PK.q]
 cases s.ev y<;>rfl
theorem zkB (y:PO) (xs:List PO):ze P (⟨d,none,.cl y xs⟩::l) K s=clP P (s.ev y) (jT s xs) (ze P l K) d s:=by
 show PK.q P s (.cl y xs) (fun p=>p.own=none/\ze P l K (s.put d p))=_
 simp only [PK.q,PV.strip_own,true_and]
 cases s.ev y<;>rfl
theorem ziv (n:Bool) (x y:PO) (m:Nat):zc P (⟨d,none,.eq2 n x y m⟩::l) K s=(eqC m (s.ev x) (s.ev y)/\zc P l K (s.put d (.v (.bool (n != eqB (s.ev x) (s.ev y)))))):=zb1 (P:=P) (s:=s) n x y m (Kv:=fun p=>zc P l K (s.put d p))
theorem zib (n:Bool) (x y:PO) (m:Nat):ze P (⟨d,none,.eq2 n x y m⟩::l) K s=(eqC m (s.ev x) (s.ev y)/\PV.own (.v (.bool (n != eqB (s.ev x) (s.ev y))))=none/\ze P l K (s.put d (.v (.bool (n != eqB (s.ev x) (s.ev y)))))):=zb1 (P:=P) (s:=s) n x y m (Kv:=fun p=>p.own=none/\ze P l K (s.put d p))
theorem ziz (n:Bool) (x:PO):zc P (⟨d,none,.nil n x⟩::l) K s=(nlC (s.ev x)/\zc P l K (s.put d (.v (.bool (n != nlB (s.ev x)))))):=zb4 (P:=P) (s:=s) n x (Kv:=fun p=>zc P l K (s.put d p))
theorem zid (n:Bool) (x:PO):ze P (⟨d,none,.nil n x⟩::l) K s=(nlC (s.ev x)/\PV.own (.v (.bool (n != nlB (s.ev x))))=none/\ze P l K (s.put d (.v (.bool (n != nlB (s.ev x)))))):=zb4 (P:=P) (s:=s) n x (Kv:=fun p=>p.own=none/\ze P l K (s.put d p))
theorem zlb (x:PO):zc P (⟨d,none,.nc x⟩::l) K s=(Jp (s.ev x)/\zc P l K (s.put d (s.ev x))):=zff (P:=P) (s:=s) x (Kv:=fun p=>zc P l K (s.put d p))
theorem zkM (x:PO):ze P (⟨d,none,.nc x⟩::l) K s=(Jp (s.ev x)/\PV.own (s.ev x)=none/\ze P l K (s.put d (s.ev x))):=zff (P:=P) (s:=s) x (Kv:=fun p=>p.own=none/\ze P l K (s.put d p))
theorem zla (m:Bool) (x y:PO):zc P (⟨d,none,.mm m x y⟩::l) K s=((qa (s.ev x)/\qa (s.ev y)/\iK (s.ev x)=iK (s.ev y))/\zc P l K (s.put d (.v (.int (iK (s.ev x)) (if m then (if iV (s.ev y) > iV (s.ev x) then iV (s.ev y) else iV (s.ev x)) else (if iV (s.ev y)<iV (s.ev x) then iV (s.ev y) else iV (s.ev x))))))):=zfe (P:=P) (s:=s) m x y (Kv:=fun p=>zc P l K (s.put d p))
theorem zkL (m:Bool) (x y:PO):ze P (⟨d,none,.mm m x y⟩::l) K s=((qa (s.ev x)/\qa (s.ev y)/\iK (s.ev x)=iK (s.ev y))/\PV.own (.v (.int (iK (s.ev x)) (if m then (if iV (s.ev y) > iV (s.ev x) then iV (s.ev y) else iV (s.ev x)) else (if iV (s.ev y)<iV (s.ev x) then iV (s.ev y) else iV (s.ev x)))))=none/\ze P l K (s.put d (.v (.int (iK (s.ev x)) (if m then (if iV (s.ev y) > iV (s.ev x) then iV (s.ev y) else iV (s.ev x)) else (if iV (s.ev y)<iV (s.ev x) then iV (s.ev y) else iV (s.ev x))))))):=zfe (P:=P) (s:=s) m x y (Kv:=fun p=>p.own=none/\ze P l K (s.put d p))
theorem zkU (x y:PO) (n sz:Nat):zc P (⟨d,none,.aa x y n sz⟩::l) K s=((qa (s.ev y)/\0<=iV (s.ev y)/\iV (s.ev y)<n/\Jp (s.ev x))/\zc P l K (s.put d (K5 ((iV (s.ev y)).toNat * sz) (s.ev x)))):=ze4 (P:=P) (s:=s) x y n sz (Kv:=fun p=>zc P l K (s.put d p))
theorem zkw (x y:PO) (n sz:Nat):ze P (⟨d,none,.aa x y n sz⟩::l) K s=((qa (s.ev y)/\0<=iV (s.ev y)/\iV (s.ev y)<n/\Jp (s.ev x))/\PV.own (K5 ((iV (s.ev y)).toNat * sz) (s.ev x))=none/\ze P l K (s.put d (K5 ((iV (s.ev y)).toNat * sz) (s.ev x)))):=ze4 (P:=P) (s:=s) x y n sz (Kv:=fun p=>p.own=none/\ze P l K (s.put d p))
theorem zk6 (x y:PO) (n:Nat) (ag:Bool) (sz:Nat):zc P (⟨d,none,.ix x y n ag sz⟩::l) K s=((qa (s.ev y)/\0<=iV (s.ev y)/\iV (s.ev y)<n/\agC (s.ev x)/\Qd (YG (s.ev x)) ((iV (s.ev y)).toNat * sz) ag sz)/\zc P l K (s.put d ((ZR (YG (s.ev x)) ((iV (s.ev y)).toNat * sz) ag sz).strip))):=zfb (P:=P) (s:=s) x y n ag sz (Kv:=fun p=>zc P l K (s.put d p))
theorem zkG (x y:PO) (n:Nat) (ag:Bool) (sz:Nat):ze P (⟨d,none,.ix x y n ag sz⟩::l) K s=((qa (s.ev y)/\0<=iV (s.ev y)/\iV (s.ev y)<n/\agC (s.ev x)/\Qd (YG (s.ev x)) ((iV (s.ev y)).toNat * sz) ag sz)/\PV.own ((ZR (YG (s.ev x)) ((iV (s.ev y)).toNat * sz) ag sz).strip)=none/\ze P l K (s.put d ((ZR (YG (s.ev x)) ((iV (s.ev y)).toNat * sz) ag sz).strip))):=zfb (P:=P) (s:=s) x y n ag sz (Kv:=fun p=>p.own=none/\ze P l K (s.put d p))
theorem zk4 (x:PO) (o:Nat) (ag:Bool) (n:Nat):zc P (⟨d,none,.fl x o ag n⟩::l) K s=((agC (s.ev x)/\Qd (YG (s.ev x)) o ag n)/\zc P l K (s.put d ((ZR (YG (s.ev x)) o ag n).strip))):=ze9 (P:=P) (s:=s) x o ag n (Kv:=fun p=>zc P l K (s.put d p))
theorem zkE (x:PO) (o:Nat) (ag:Bool) (n:Nat):ze P (⟨d,none,.fl x o ag n⟩::l) K s=((agC (s.ev x)/\Qd (YG (s.ev x)) o ag n)/\PV.own ((ZR (YG (s.ev x)) o ag n).strip)=none/\ze P l K (s.put d ((ZR (YG (s.ev x)) o ag n).strip))):=ze9 (P:=P) (s:=s) x o ag n (Kv:=fun p=>p.own=none/\ze P l K (s.put d p))
def mfB (s:PS) (l:List PO):Bool:=l.any fun x=>(s.ev x).isB
theorem zdM:mfB s []=false:=rfl
theorem zbs (x:PO) (l:List PO):mfB s (x::l)=((s.ev x).isB || mfB s l):=rfl
theorem zh6:PS.fz ⟨t,b⟩=⟨t.map fun y=>(y.1,y.2.fz b),[]⟩:=rfl
theorem zkt (x:Value):PV.fz b (.v x)=.v x:=rfl
theorem zfN (cs:List PV):PV.fz b (.agg cs)=.agg cs:=rfl
theorem zfQ (cs:List PV):PV.fz b (.tup cs)=.tup cs:=rfl
theorem zh7 (es:List (List PV)) (o:Ow):PV.fz b (.sl es o)=.sl es o:=rfl
theorem zh3 (i o:Nat):PV.fz b (.bx i o)=.cp ((b[i]?.getD []).map PV.sh) o:=rfl
theorem zh4 (cs:List PV) (o:Nat):PV.fz b (.cp cs o)=.cp cs o:=rfl
theorem zfO (ty:TypeId) (x:PV):PV.fz b (.ifc ty x)=.ifc ty x:=rfl
theorem zfR:PV.fz b .und=.und:=rfl
theorem zh5 (f:Fn) (fs cs:List PV):PV.fz b (.fn f fs cs)=.fn f (fs.map (PV.fz1 b)) (cs.map (PV.fz1 b)):=rfl
theorem zfL (i o:Nat):PV.fz1 b (.bx i o)=.cp ((b[i]?.getD []).map PV.sh) o:=rfl
theorem zh2 (x:Value):PV.fz1 b (.v x)=.v x:=rfl
theorem zfM (cs:List PV) (o:Nat):PV.fz1 b (.cp cs o)=.cp cs o:=rfl
theorem zk8 (f:Fn) (fs cs:List PO):zc P (⟨d,none,.mf f fs cs⟩::l) K s=if (mfB s fs || mfB s cs)=true then (s.b.all zW=true/\(K7 (jT s.fz fs) && K7 (jT s.fz cs))=true/\zc P l K (s.fz.put d (.fn f (jT s.fz fs) (jT s.fz cs)))) else ((K7 (jT s fs) && K7 (jT s cs))=true/\zc P l K (s.put d (.fn f (jT s fs) (jT s cs)))):=by
 show PK.e P (.mf f fs cs) d s (zc P l K)=_
 simp only [PK.e,mfB]
 congr 1
 ·rw [zb3 (P:=P) (s:=s.fz) f fs cs (Kv:=fun p=>zc P l K (s.fz.put d p))]
 ·exact zb3 (P:=P) (s:=s) f fs cs (Kv:=fun p=>zc P l K (s.put d p))
theorem zkJ (f:Fn) (fs cs:List PO):ze P (⟨d,none,.mf f fs cs⟩::l) K s=((K7 (jT s fs) && K7 (jT s cs))=true/\PV.own (.fn f (jT s fs) (jT s cs))=none/\ze P l K (s.put d (.fn f (jT s fs) (jT s cs)))):=zb3 (P:=P) (s:=s) f fs cs (Kv:=fun p=>p.own=none/\ze P l K (s.put d p))
theorem zk9 (t:TypeId) (x:PO):zc P (⟨d,none,.mi t x⟩::l) K s=((s.ev x).isD=true/\zc P l K (s.put d (.ifc t (s.ev x).sh))):=zfd (P:=P) (s:=s) t x (Kv:=fun p=>zc P l K (s.put d p))
theorem zkK (t:TypeId) (x:PO):ze P (⟨d,none,.mi t x⟩::l) K s=((s.ev x).isD=true/\PV.own (.ifc t (s.ev x).sh)=none/\ze P l K (s.put d (.ifc t (s.ev x).sh))):=zfd (P:=P) (s:=s) t x (Kv:=fun p=>p.own=none/\ze P l K (s.put d p))
theorem zld (x:PO) (lo hi:Option PO) (n:Nat):zc P (⟨d,none,.sc x lo hi n⟩::l) K s=(ye (s.ev x)/\bdC s hi/\bdC s lo/\Jd s 0 lo<=Jd s (eV (s.ev x)).length hi/\Jd s (eV (s.ev x)).length hi<=(eV (s.ev x)).length/\(∀ e ∈ eV (s.ev x),e.length=n) /\
 zc P l K (s.put d (.sl (((eV (s.ev x)).take (Jd s (eV (s.ev x)).length hi)).drop (Jd s 0 lo)) .sh))):=by
 show PK.q P s (.sc x lo hi n) (fun p=>zc P l K (s.put d p.strip))=_
 have:∀ es lo p,(PV.sl es (Yr lo p)).strip=.sl es .sh:=fun es lo p=>by unfold Yr;split<;>rfl
 simp only [PK.q,vF,JP,this]
theorem zkO (x:PO) (lo hi:Option PO) (n:Nat):ze P (⟨d,none,.sc x lo hi n⟩::l) K s=(ye (s.ev x)/\bdC s hi/\bdC s lo/\Jd s 0 lo<=Jd s (eV (s.ev x)).length hi/\Jd s (eV (s.ev x)).length hi<=(eV (s.ev x)).length/\(∀ e ∈ eV (s.ev x),e.length=n) /\
 ze P l K (s.put d (.sl (((eV (s.ev x)).take (Jd s (eV (s.ev x)).length hi)).drop (Jd s 0 lo)) (Yr lo (s.ev x))))):=by
 show PK.q P s (.sc x lo hi n) (fun p=>p.own=none/\ze P l K (s.put d p))=_
 have:∀ es lo p,(PV.sl es (Yr lo p)).own=none:=fun es lo p=>by unfold Yr;split<;>rfl
 simp only [PK.q,vF,JP,this,true_and]
theorem zhC:bdC s none=True:=Eq.trans rfl rfl
theorem zhD (y:PO):bdC s (some y)=(qa (s.ev y)/\0<=iV (s.ev y)):=Eq.trans rfl rfl
theorem zhE (n:Nat):Jd s n none=n:=Eq.trans rfl rfl
theorem zhF (n:Nat) (y:PO):Jd s n (some y)=(iV (s.ev y)).toNat:=Eq.trans rfl rfl
def zcA (p:PV) (i:Nat):Prop:=match p with
 | .tup cs=>cs[i]?.isSome=true
 | _=>False
def tpV (p:PV) (i:Nat):PV:=match p with
 | .tup cs=>(cs[i]?.getD .und).strip
 | _=>.und
theorem ze7 (x:PO) (i:Nat) {Kv:PV->Prop}:PK.q P s (.ex x i) Kv=(zcA (s.ev x) i/\Kv (tpV (s.ev x) i)):=by
 simp only [PK.q]
 cases s.ev x<;>simp only [zcA,tpV,false_and]
 rename_i cs
 cases cs[i]?<;>simp
theorem ziw (x:PO) (i:Nat):zc P (⟨d,none,.ex x i⟩::l) K s=(zcA (s.ev x) i/\zc P l K (s.put d (tpV (s.ev x) i))):=ze7 (P:=P) (s:=s) x i (Kv:=fun p=>zc P l K (s.put d p))
theorem zic (x:PO) (i:Nat):ze P (⟨d,none,.ex x i⟩::l) K s=(zcA (s.ev x) i/\(tpV (s.ev x) i).own=none/\ze P l K (s.put d (tpV (s.ev x) i))):=ze7 (P:=P) (s:=s) x i (Kv:=fun p=>p.own=none/\ze P l K (s.put d p))
theorem zg8 (cs:List PV) (i:Nat):zcA (.tup cs) i=(cs[i]?.isSome=true):=Eq.trans rfl rfl
theorem zj3 (cs:List PV) (i:Nat):tpV (.tup cs) i=(cs[i]?.getD .und).strip:=Eq.trans rfl rfl
theorem zkV (zs:List PV):zc P (⟨d,none,.al zs⟩::l) K s=zc P l K (PS.put ⟨s.t,s.b++[zs]⟩ d (.bx s.b.length 0)):=Eq.trans rfl rfl
theorem zkY (x:PO):zc P (⟨d,none,.bo x⟩::l) K s=(qp (s.ev x)/\zc P l K (PS.put ⟨s.t,s.b++[(qh (s.ev x)).map PV.sh]⟩ d (.bx s.b.length 0))):=xE
def stC (bs:List (List PV)) (p q:PV) (n:Nat):Prop:=match p with
 | .bx i o=>bs[i]?.isSome=true/\qp q/\(qh q).length=n/\o+n<=(bs[i]?.getD []).length
 | _=>False
def stB (bs:List (List PV)) (y:PO) (p q:PV):List (List PV):=match p with
 | .bx i o=>bs.set i (YD (bs[i]?.getD []) (yo y q (qh q)) o)
 | _=>bs
theorem zjZ (bs:List (List PV)) (i o:Nat) (q:PV) (n:Nat):stC bs (.bx i o) q n=(bs[i]?.isSome=true/\qp q/\(qh q).length=n/\o+n<=(bs[i]?.getD []).length):=Eq.trans rfl rfl
theorem zjY (bs:List (List PV)) (y:PO) (i o:Nat) (q:PV):stB bs y (.bx i o) q=bs.set i (YD (bs[i]?.getD []) (yo y q (qh q)) o):=Eq.trans rfl rfl
theorem zle (x y:PO) (n:Nat):zc P (⟨d,none,.st x y n⟩::l) K s=(stC s.b (s.ev x) (s.ev y) n/\zc P l K (PS.put ⟨s.t,stB s.b y (s.ev x) (s.ev y)⟩ d (.v undef))):=by
 show PK.e P (.st x y n) d s (zc P l K)=_
 simp only [PK.e]
 cases s.ev x<;>simp only [stC,stB,false_and]
 rename_i i o
 cases s.b[i]?<;>simp [xE,and_assoc]
theorem zk0 (f:FuncId) (xs:List PO):zc P (⟨d,none,.ca f xs⟩::l) K s=match xs with
 | .t i::xs'=>caD P f (s.get i) (jT s xs') (zc P l K) d s
 | xs=>callP P f (jT s xs) (zc P l K) d s:=by
 show PK.e P (.ca f xs) d s (zc P l K)=_
 simp only [PK.e]
 split
 ·rename_i i xs'
  have e:s.ev (.t i)=s.get i:=rfl
  simp only [List.map_cons,e,caD]
  generalize s.get i=p
  cases p with
  | sl es o=>cases o<;>rfl
  | _=>rfl
 ·rename_i h
  cases xs with
  | nil=>rfl
  | cons x xs=>cases x<;>first | rfl | exact absurd rfl (h _ _)
theorem zhH (f:FuncId) (es:List (List PV)) (n sz:Nat) (xs:List PV):caD P f (.sl es (.r n sz)) xs K d s=callO P f es n sz xs K d s:=Eq.trans rfl rfl
theorem zhI (f:FuncId) (x:Value) (xs:List PV):caD P f (.v x) xs K d s=callP P f (.v x::xs) K d s:=Eq.trans rfl rfl
theorem zcV (f:FuncId) (cs:List PV) (xs:List PV):caD P f (.agg cs) xs K d s=callP P f (.agg cs::xs) K d s:=Eq.trans rfl rfl
theorem zfu (f:FuncId) (es:List (List PV)) (xs:List PV):caD P f (.sl es .sh) xs K d s=callP P f (.sl es .sh::xs) K d s:=Eq.trans rfl rfl
theorem zhJ (f:FuncId) (es:List (List PV)) (xs:List PV):caD P f (.sl es .z) xs K d s=callP P f (.sl es .sh::xs) K d s:=Eq.trans rfl rfl
theorem zcW (f:FuncId) (t:TypeId) (x:PV) (xs:List PV):caD P f (.ifc t x) xs K d s=callP P f (.ifc t x::xs) K d s:=Eq.trans rfl rfl
theorem zft (f:FuncId) (g:Fn) (x y:List PV) (xs:List PV):caD P f (.fn g x y) xs K d s=callP P f (.fn g x y::xs) K d s:=Eq.trans rfl rfl
theorem zkA (f:FuncId) (xs:List PO):ze P (⟨d,none,.ca f xs⟩::l) K s=callQ P f (jT s xs) (ze P l K) d s:=by
 show (∃ r,_/\_/\(PV.own _=none/\_))=_
 simp only [PV.strip_own,true_and]
 rfl
def apT (P:Program) (p q:PV) (x y:PO) (n m:Nat) (K:PS->Prop) (d:Option Nat) (s:PS):Prop:=match p with
 | .sl es (.r k sz')=>sz'=n/\isT x=true/\ye q/\(∀ e ∈ eV q,e.length=n)/\(es.length+(eV q).length) * m<=140737488355328/\K ((s.down k).put d (.sl (es++eV q) (.r k n)))
 | .sl es .z=>(match d with
   | some d=>ye q/\(∀ e ∈ es,e.length=n)/\(∀ e ∈ eV q,e.length=n)/\(es.length+(eV q).length) * m<=140737488355328/\K (s.put (some d) (.sl (es++eV q) (apO es (eV q) d n)))
   | none=>PK.q P s (.ap x y n m) fun p=>K (s.put d p.strip))
 | _=>False
theorem zkW (x y:PO) (n m:Nat):zc P (⟨d,none,.ap x y n m⟩::l) K s=apT P (s.ev x) (s.ev y) x y n m (zc P l K) d s:=by
 show PK.e P (.ap x y n m) d s (zc P l K)=_
 simp only [PK.e,apT,vF]
 generalize s.ev x=p
 cases p with
 | sl es o=>cases o with
   | z=>cases d<;>rfl
   | r k sz=>rfl
   | _=>rfl
 | _=>rfl
theorem zht (es:List (List PV)) (k sz':Nat) (q:PV) (x y:PO) (n m:Nat):apT P (.sl es (.r k sz')) q x y n m K d s=(sz'=n/\isT x=true/\ye q/\(∀ e ∈ eV q,e.length=n)/\(es.length+(eV q).length) * m<=140737488355328/\K ((s.down k).put d (.sl (es++eV q) (.r k n)))):=Eq.trans rfl rfl
theorem zhu (es:List (List PV)) (q:PV) (x y:PO) (d n m:Nat):apT P (.sl es .z) q x y n m K (some d) s=(ye q/\(∀ e ∈ es,e.length=n)/\(∀ e ∈ eV q,e.length=n)/\(es.length+(eV q).length) * m<=140737488355328/\K (s.put (some d) (.sl (es++eV q) (apO es (eV q) d n)))):=Eq.trans rfl rfl
theorem zhr (es':List (List PV)) (d n:Nat):apO [] es' d n=.r d n:=by cases es'<;>rfl
theorem zhq (es:List (List PV)) (e:List PV) (es':List (List PV)) (d n:Nat):apO es (e::es') d n=.r d n:=by cases es<;>rfl
theorem zhs (e:List PV) (es:List (List PV)) (d n:Nat):apO (e::es) [] d n=.sh:=rfl
def apH (p q:PV) (n m:Nat):Prop:=match p with
 | .sl es .z=>ye q/\(∀ e ∈ es,e.length=n)/\(∀ e ∈ eV q,e.length=n)/\(es.length+(eV q).length) * m<=140737488355328
 | _=>False
theorem zhp (es:List (List PV)) (q:PV) (n m:Nat):apH (.sl es .z) q n m=(ye q/\(∀ e ∈ es,e.length=n)/\(∀ e ∈ eV q,e.length=n)/\(es.length+(eV q).length) * m<=140737488355328):=Eq.trans rfl rfl
theorem zkx (x y:PO) (n m:Nat):ze P (⟨d,none,.ap x y n m⟩::l) K s=(apH (s.ev x) (s.ev y) n m/\ze P l K (s.put d (.sl (eV (s.ev x)++eV (s.ev y)) (.n n)))):=by
 show PK.q P s (.ap x y n m) (fun p=>p.own=none/\ze P l K (s.put d p))=_
 simp only [PK.q,apH,vF]
 cases h:s.ev x<;>try simp
 rename_i es o
 cases o<;>simp [eV,PV.own,and_assoc]
theorem zex (x:Value):PV.strip (.v x)=.v x:=Eq.trans rfl rfl
theorem KV (cs:List PV):PV.strip (.agg cs)=.agg cs:=Eq.trans rfl rfl
theorem KX (cs:List PV):PV.strip (.tup cs)=.tup cs:=Eq.trans rfl rfl
theorem zcv (es:List (List PV)):PV.strip (.sl es .sh)=.sl es .sh:=Eq.trans rfl rfl
theorem zey (es:List (List PV)):PV.strip (.sl es .z)=.sl es .z:=Eq.trans rfl rfl
theorem zew (es:List (List PV)) (n m:Nat):PV.strip (.sl es (.r n m))=.sl es .sh:=Eq.trans rfl rfl
theorem zev (es:List (List PV)) (m:Nat):PV.strip (.sl es (.p m))=.sl es .sh:=Eq.trans rfl rfl
theorem zeu (es:List (List PV)) (m:Nat):PV.strip (.sl es (.n m))=.sl es .sh:=Eq.trans rfl rfl
theorem zcs (i o:Nat):PV.strip (.bx i o)=.bx i o:=Eq.trans rfl rfl
theorem zct (cs:List PV) (o:Nat):PV.strip (.cp cs o)=.cp cs o:=Eq.trans rfl rfl
theorem zcu (f:Fn) (x y:List PV):PV.strip (.fn f x y)=.fn f x y:=Eq.trans rfl rfl
theorem KW (t:TypeId) (x:PV):PV.strip (.ifc t x)=.ifc t x:=Eq.trans rfl rfl
theorem zlC (x:Value):PV.sh (.v x)=.v x:=Eq.trans rfl rfl
theorem zgY (cs:List PV):PV.sh (.agg cs)=.agg cs:=Eq.trans rfl rfl
theorem zg0 (cs:List PV):PV.sh (.tup cs)=.tup cs:=Eq.trans rfl rfl
theorem zjW (es:List (List PV)) (o:Ow):PV.sh (.sl es o)=.sl es .sh:=Eq.trans rfl rfl
theorem zjT (i o:Nat):PV.sh (.bx i o)=.bx i o:=Eq.trans rfl rfl
theorem zjU (cs:List PV) (o:Nat):PV.sh (.cp cs o)=.cp cs o:=Eq.trans rfl rfl
theorem zjV (f:Fn) (x y:List PV):PV.sh (.fn f x y)=.fn f x y:=Eq.trans rfl rfl
theorem zgZ (t:TypeId) (x:PV):PV.sh (.ifc t x)=.ifc t x:=Eq.trans rfl rfl
theorem zi6 (x:Value):PV.own (.v x)=none:=Eq.trans rfl rfl
theorem zdY (cs:List PV):PV.own (.agg cs)=none:=Eq.trans rfl rfl
theorem zd0 (cs:List PV):PV.own (.tup cs)=none:=Eq.trans rfl rfl
theorem zgB (es:List (List PV)):PV.own (.sl es .sh)=none:=Eq.trans rfl rfl
theorem zi7 (es:List (List PV)):PV.own (.sl es .z)=none:=Eq.trans rfl rfl
theorem zi4 (es:List (List PV)) (m:Nat):PV.own (.sl es (.p m))=none:=Eq.trans rfl rfl
theorem zi3 (es:List (List PV)) (m:Nat):PV.own (.sl es (.n m))=none:=Eq.trans rfl rfl
theorem zgy (i o:Nat):PV.own (.bx i o)=none:=Eq.trans rfl rfl
theorem zgz (cs:List PV) (o:Nat):PV.own (.cp cs o)=none:=Eq.trans rfl rfl
theorem zgA (f:Fn) (x y:List PV):PV.own (.fn f x y)=none:=Eq.trans rfl rfl
theorem zdZ (t:TypeId) (x:PV):PV.own (.ifc t x)=none:=Eq.trans rfl rfl
theorem zfF (n:Nat) (x:Value):PV.down n (.v x)=.v x:=Eq.trans rfl rfl
theorem zaN (n:Nat) (cs:List PV):PV.down n (.agg cs)=.agg cs:=Eq.trans rfl rfl
theorem zaP (n:Nat) (cs:List PV):PV.down n (.tup cs)=.tup cs:=Eq.trans rfl rfl
theorem zdh (n:Nat) (es:List (List PV)):PV.down n (.sl es .sh)=.sl es .sh:=Eq.trans rfl rfl
theorem zfG (n:Nat) (es:List (List PV)):PV.down n (.sl es .z)=.sl es .z:=Eq.trans rfl rfl
theorem zfD (n m:Nat) (es:List (List PV)):PV.down n (.sl es (.p m))=.sl es (.p m):=Eq.trans rfl rfl
theorem zfC (n m:Nat) (es:List (List PV)):PV.down n (.sl es (.n m))=.sl es (.n m):=Eq.trans rfl rfl
theorem zfE (n m k:Nat) (es:List (List PV)):PV.down n (.sl es (.r m k))=if m=n then .sl es .sh else .sl es (.r m k):=Eq.trans rfl rfl
theorem zdd (n i o:Nat):PV.down n (.bx i o)=.bx i o:=Eq.trans rfl rfl
theorem zde (n:Nat) (cs:List PV) (o:Nat):PV.down n (.cp cs o)=.cp cs o:=Eq.trans rfl rfl
theorem zdf (n:Nat) (f:Fn) (x y:List PV):PV.down n (.fn f x y)=.fn f x y:=Eq.trans rfl rfl
theorem zaO (n:Nat) (t:TypeId) (x:PV):PV.down n (.ifc t x)=.ifc t x:=Eq.trans rfl rfl
theorem zaQ (n:Nat):PV.down n .und=.und:=Eq.trans rfl rfl
theorem zaA:PS.clean ⟨t,b⟩=⟨t.map fun y=>(y.1,y.2.clean),b⟩:=Eq.trans rfl rfl
theorem zc5 (x:Value):PV.clean (.v x)=.v x:=Eq.trans rfl rfl
theorem zjn (j:Nat) (x:Value):PV.pre j (.v x)=.v x:=Eq.trans rfl rfl
theorem Ka (cs:List PV):PV.clean (.agg cs)=.agg cs:=Eq.trans rfl rfl
theorem zea (j:Nat) (cs:List PV):PV.pre j (.agg cs)=.agg cs:=Eq.trans rfl rfl
theorem Kc (cs:List PV):PV.clean (.tup cs)=.tup cs:=Eq.trans rfl rfl
theorem zed (j:Nat) (cs:List PV):PV.pre j (.tup cs)=.tup cs:=Eq.trans rfl rfl
theorem zaB (es:List (List PV)):PV.clean (.sl es .sh)=.sl es .sh:=Eq.trans rfl rfl
theorem zgN (j:Nat) (es:List (List PV)):PV.pre j (.sl es .sh)=.sl es .sh:=Eq.trans rfl rfl
theorem zc6 (es:List (List PV)):PV.clean (.sl es .z)=.sl es .z:=Eq.trans rfl rfl
theorem zjo (j:Nat) (es:List (List PV)):PV.pre j (.sl es .z)=.sl es .z:=Eq.trans rfl rfl
theorem zax (i o:Nat):PV.clean (.bx i o)=.bx i o:=Eq.trans rfl rfl
theorem zgK (j:Nat) (i o:Nat):PV.pre j (.bx i o)=.bx i o:=Eq.trans rfl rfl
theorem zay (cs:List PV) (o:Nat):PV.clean (.cp cs o)=.cp cs o:=Eq.trans rfl rfl
theorem zgL (j:Nat) (cs:List PV) (o:Nat):PV.pre j (.cp cs o)=.cp cs o:=Eq.trans rfl rfl
theorem zaz (f:Fn) (x y:List PV):PV.clean (.fn f x y)=.fn f x y:=Eq.trans rfl rfl
theorem zgM (j:Nat) (f:Fn) (x y:List PV):PV.pre j (.fn f x y)=.fn f x y:=Eq.trans rfl rfl
theorem Kb (t:TypeId) (x:PV):PV.clean (.ifc t x)=.ifc t x:=Eq.trans rfl rfl
theorem zeb (j:Nat) (t:TypeId) (x:PV):PV.pre j (.ifc t x)=.ifc t x:=Eq.trans rfl rfl
theorem Kd  : PV.clean (.und)=.und:=Eq.trans rfl rfl
theorem zee (j:Nat)  : PV.pre j (.und)=.und:=Eq.trans rfl rfl
theorem zc4 (es:List (List PV)) (n m:Nat):PV.clean (.sl es (.r n m))=.sl es (.r n m):=Eq.trans rfl rfl
theorem zc2 (es:List (List PV)) (m:Nat):PV.clean (.sl es (.n m))=.sl es .sh:=Eq.trans rfl rfl
theorem zc3 (es:List (List PV)) (m:Nat):PV.clean (.sl es (.p m))=.sl es .sh:=Eq.trans rfl rfl
theorem zjm (j:Nat) (es:List (List PV)) (n m:Nat):PV.pre j (.sl es (.r n m))=.sl es (.p j):=Eq.trans rfl rfl
theorem zjk (j:Nat) (es:List (List PV)) (m:Nat):PV.pre j (.sl es (.n m))=.sl es .sh:=Eq.trans rfl rfl
theorem zjl (j:Nat) (es:List (List PV)) (m:Nat):PV.pre j (.sl es (.p m))=.sl es .sh:=Eq.trans rfl rfl
theorem zco (es:List (List PV)) (i:Nat):Yr none (.sl es (.p i))=.p i:=Eq.trans rfl rfl
theorem zcp (y:PO) (p:PV):Yr (some y) p=.sh:=Eq.trans rfl rfl
theorem zgX (es:List (List PV)):Yr none (.sl es .sh)=.sh:=Eq.trans rfl rfl
theorem zjS (es:List (List PV)):Yr none (.sl es .z)=.sh:=Eq.trans rfl rfl
theorem zjR (es:List (List PV)) (n m:Nat):Yr none (.sl es (.r n m))=.sh:=Eq.trans rfl rfl
theorem zjQ (es:List (List PV)) (m:Nat):Yr none (.sl es (.n m))=.sh:=Eq.trans rfl rfl
theorem zih (x:Value):PV.isD (.v x)=true:=Eq.trans rfl rfl
theorem zdA (cs:List PV):PV.isD (.agg cs)=true:=Eq.trans rfl rfl
theorem zdC (cs:List PV):PV.isD (.tup cs)=true:=Eq.trans rfl rfl
theorem zge (es:List (List PV)) (o:Ow):PV.isD (.sl es o)=true:=Eq.trans rfl rfl
theorem zgc (cs:List PV) (o:Nat):PV.isD (.cp cs o)=true:=Eq.trans rfl rfl
theorem zdB (t:TypeId) (x:PV):PV.isD (.ifc t x)=true:=Eq.trans rfl rfl
theorem zad:zW []=true:=Eq.trans rfl rfl
theorem J1 (p:PV) (l:List PV):zW (p::l)=(p.isD && zW l):=Eq.trans rfl rfl
end
section
variable {nb:Nat}
theorem zeD (p:PV):SubP nb p .und ↔ True:=⟨fun _=>trivial,fun _=>.und p⟩
theorem zj1 (x y:Value):SubP nb (.v x) (.v y) ↔ x=y:=⟨fun h=>by cases h<;>rfl,fun h=>by subst h;exact .eq _ rfl⟩
theorem zez (x y:List PV):SubP nb (.agg x) (.agg y) ↔ x=y:=⟨fun h=>by cases h<;>rfl,fun h=>by subst h;exact .eq _ rfl⟩
theorem zeC (x y:List PV):SubP nb (.tup x) (.tup y) ↔ x=y:=⟨fun h=>by cases h<;>rfl,fun h=>by subst h;exact .eq _ rfl⟩
theorem zeB (t t':TypeId) (x y:PV):SubP nb (.ifc t x) (.ifc t' y) ↔ t=t'/\x=y:=⟨fun h=>by cases h<;>exact⟨rfl,rfl⟩,fun⟨h,h'⟩=>by subst h;subst h';exact .eq _ rfl⟩
theorem zg3 (x y:List PV) (i j:Nat):SubP nb (.cp x i) (.cp y j) ↔ x=y/\i=j:=⟨fun h=>by cases h<;>exact⟨rfl,rfl⟩,fun⟨h,h'⟩=>by subst h;subst h';exact .eq _ rfl⟩
theorem zg2 (i j o o':Nat):SubP nb (.bx i o) (.bx j o') ↔ (i=j/\o=o')/\i<nb:=⟨fun h=>by cases h<;>(rename_i h;exact⟨⟨rfl,rfl⟩,by simpa [Kw] using h⟩),fun⟨⟨h,h'⟩,h2⟩=>by subst h;subst h';exact .eq _ (by simpa [Kw] using h2)⟩
theorem zg4 (f f':Fn) (x y x' y':List PV):SubP nb (.fn f x y) (.fn f' x' y') ↔ (f=f'/\x=x'/\y=y')/\(x.all (Vr nb) && y.all (Vr nb))=true:=
 ⟨fun h=>by cases h<;>(rename_i h;exact⟨⟨rfl,rfl,rfl⟩,h⟩),fun⟨⟨h,h',h3⟩,h2⟩=>by subst h;subst h';subst h3;exact .eq _ h2⟩
theorem zg5 (x y:List (List PV)) (o:Ow):SubP nb (.sl x o) (.sl y .sh) ↔ x=y:=⟨fun h=>by cases h<;>rfl,fun h=>by subst h;exact .sh (.sl x o) rfl⟩
theorem zj2 (x y:List (List PV)):SubP nb (.sl x .z) (.sl y .z) ↔ x=y:=⟨fun h=>by cases h<;>rfl,fun h=>by subst h;exact .eq _ rfl⟩
theorem zj0 (x y:List (List PV)) (n m n' m':Nat):SubP nb (.sl x (.r n m)) (.sl y (.r n' m')) ↔ x=y/\n=n'/\m=m':=⟨fun h=>by cases h<;>exact⟨rfl,rfl,rfl⟩,fun⟨h,h',h2⟩=>by subst h;subst h';subst h2;exact .eq _ rfl⟩
theorem zg6 (x y:List (List PV)) (n m:Nat):SubP nb (.sl x .z) (.sl y (.r n m)) ↔ x=[]/\y=[]:=⟨fun h=>by cases h;exact⟨rfl,rfl⟩,fun⟨h,h'⟩=>by subst h;subst h';exact .nil _ _⟩
theorem zcx (t t':List (Nat × PV)) (b b':List (List PV)):QI ⟨t,b⟩ ⟨t',b'⟩ ↔ SubT b'.length t t'/\SubB b'.length b b':=Iff.rfl
theorem K0 (t:List (Nat × PV)):SubT nb t [] ↔ True:=Iff.rfl
theorem VY (t r:List (Nat × PV)) (i:Nat) (q:PV):SubT nb t ((i,q)::r) ↔ SubP nb (yI t i) q/\SubT nb t r:=Iff.rfl
theorem KY (l:List (List PV)):SubB nb l [] ↔ True:=⟨fun _=>trivial,fun _=>.nil l⟩
def SubC (nb:Nat):List PV->List PV->Prop
 | [],[]=>True
 | p::l,q::r=>SubP nb p q/\SubC nb l r
 | _,_=>False
theorem SubC.get:∀ {l r:List PV},SubC nb l r->l.length=r.length/\∀(j:Nat) p q,l[j]? = some p->r[j]? = some q->SubP nb p q
 | [],[],_=>⟨rfl,fun j p q h=>by simp at h⟩
 | p::l,q::r,h=>by
   obtain⟨h1,h2⟩:=SubC.get h.2
   refine⟨by simp [h1],fun j p' q' hp hq=>?_⟩
   cases j with
   | zero=>simp at hp hq;subst hp;subst hq;exact h.1
   | succ j=>exact h2 j p' q' (by simpa using hp) (by simpa using hq)
 | [],_::_,h=>h.elim
 | _::_,[],h=>h.elim
theorem VX (cs cs':List PV) (l l':List (List PV)) (h:SubC nb cs cs'/\SubB nb l l'):SubB nb (cs::l) (cs'::l'):=.cons _ _ _ _ h.1.get.1 h.1.get.2 h.2
theorem XA:∀(l r:List PV),l.length=r.length->(∀(j:Nat) p q,l[j]? = some p->r[j]? = some q->SubP nb p q)->SubC nb l r
 | [],[],_,_=>trivial
 | p::l,q::r,h,hc=>⟨hc 0 p q rfl rfl,XA l r (by simpa using h) fun j p q h1 h2=>hc (j+1) p q (by simpa using h1) (by simpa using h2)⟩
 | [],_::_,h,_=>by simp at h
 | _::_,[],h,_=>by simp at h
theorem Z7 (cs cs':List PV) (l l':List (List PV)):SubB nb (cs::l) (cs'::l') ↔ SubC nb cs cs'/\SubB nb l l':=⟨fun h=>by cases h with | cons _ _ _ _ h hc hl=>exact⟨XA _ _ h hc,hl⟩,VX cs cs' l l'⟩
theorem zcw:SubC nb [] [] ↔ True:=Iff.rfl
theorem KZ (p q:PV) (l r:List PV):SubC nb (p::l) (q::r) ↔ SubP nb p q/\SubC nb l r:=Iff.rfl
end
def Q8 (s:Iv):List PV:=[.v (.int .u64 s.lo),.v (.int .u64 s.hi)]
def K6 (s:Iv):PV:=.agg (Q8 s)
def xP (x:Nat):List PV:=[.v (.int .u64 x)]
def rg (l:List Iv):PV:=.sl (l.map Q8) .sh
def rgs (ls:List (List Iv)):PV:=.sl (ls.map fun l=>[rg l]) .sh
theorem zhd (n:Int):IntKind.u64.wrap n=n % 18446744073709551616:=by
 simp only [IntKind.wrap,IntKind.bits,IntKind.signed,Bool.false_and,Bool.false_eq_true,if_false]
 rfl
theorem qn (k:Nat):(k:Int)+1=((k+1:Nat):Int):=Eq.trans rfl rfl
theorem pLoop.mk {body:(PX->PS->Prop)->PS->Prop} {Q:PX->PS->Prop} {s:PS} {ι:Type} (J:ι->Prop) (S:ι->PS) (m:ι->Nat) (i0:ι) (h0:J i0) (hs:QI s (S i0)) (hr:∀ i,J i->body (jJ (fun s'=>∃ j,J j/\m j<m i/\QI s' (S j)) Q) (S i)):pLoop body Q s:=
 ⟨ι,J,S,m,i0,h0,hs,hr⟩
theorem zgU {n:Int} (h : -9223372036854775808<=n/\n<9223372036854775808):rng .i64 n=True:=by simp [rng,h]
theorem xA {α:Type} {f:α->List PV} {l:List α} {k:Nat} (h:k<l.length):(l.map f)[k]? = some (f l[k]):=by rw [List.getElem?_map,List.getElem?_eq_getElem h];rfl
theorem zbx {k:Nat} (h:1<=k):(k:Int) - 1=((k - 1:Nat):Int):=by omega
theorem zdP {a b:Nat} (h:b<=a):(a:Int) - (b:Int)=((a - b:Nat):Int):=by omega
theorem zdO (a b:Nat):(a:Int)+(b:Int)=((a+b:Nat):Int):=by omega
theorem Kz {n:Int} (h:0<=n/\n<18446744073709551616):n % 18446744073709551616=n:=Int.emod_eq_of_lt h.1 h.2
theorem zg1 {a:Int} (h:0<=a):zer .u64 a 1=a / 2:=by
 unfold zer
 rw [Int.fdiv_eq_ediv_of_nonneg _ (by decide)]
 rfl
theorem zbw (a:Nat):(a:Int) / 2=((a / 2:Nat):Int):=by omega
theorem Vi (s:PS):qC [] s=s:=rfl
theorem YX (i:PI) (h:List PI) (s:PS):qC (i::h) s=qC h (s.put i.d .und):=rfl
theorem zjq (es:List (List PV)) (o:Ow) (K:List (List PV)->Prop):ZA (.sl es o) K=K es:=rfl
theorem ziM {α β:Type} (f:α->β) (n:Nat) (l:List α):List.take n (l.map f)=(l.take n).map f:=List.map_take.symm
theorem ziL {α β:Type} (f:α->β) (n:Nat) (l:List α):List.drop n (l.map f)=(l.drop n).map f:=List.map_drop.symm
theorem pLoop.go {P:Program} {nt:Nat} {fr:Prop} {pc:PC} {Q:PX->PS->Prop} {t:List (Nat × PV)} {b:List (List PV)} {ι:Type} (J:ι->Prop) (T:ι->List (Nat × PV)) (Bx:ι->List (List PV)) (m:ι->Nat) (i0:ι) (W:List Nat) (h0:J i0)
 (hs:QI ⟨t,b⟩ ⟨T i0++t.filter (fun y=>!W.contains y.1),Bx i0⟩) (hr:∀ i,J i->pW P nt fr pc (jJ (fun s'=>∃ j,J j/\m j<m i/\QI s' ⟨T j++t.filter (fun y=>!W.contains y.1),Bx j⟩) Q) ⟨T i++t.filter (fun y=>!W.contains y.1),Bx i⟩):pLoop (pW P nt fr pc) Q ⟨t,b⟩:=
 ⟨ι,J,fun i=>⟨T i++t.filter (fun y=>!W.contains y.1),Bx i⟩,m,i0,h0,hs,hr⟩
theorem Dat.v_inv {D:Nat->Nat->Prop} {w:World} {x y:Value} (h:Dat D w x (.v y)):x=y:=(Rel.dat (ρ:=fun _=>0) (nb:=0) h).v_inv
theorem vA {D:Nat->Nat->Prop} {w:World} {v:Value} {l:List Iv} (h:Dat D w v (rg l)) (hD:∀ b o,D b o->b<w.heap.size) (hb:∀ s ∈ l,s.lo<zm/\s.hi<zm):RdR 0 w.heap.size w v l:=by
 unfold rg at h
 generalize he:l.map Q8=es at h
 cases h with
 | sl a cap sz es o b off u hc hz hm ha hsz hd hx=>
   have hl:es.length=l.length:=by rw [<-he];simp
   refine⟨a,cap,by rw [hl],by omega,hm,fun hne=>?_⟩
   have hpos:0<l.length:=List.length_pos_iff.2 hne
   have g:∀ i (h:i<l.length),es[i]? = some (Q8 l[i]):=fun i h=>by rw [<-he];exact xA h
   obtain rfl:2=sz:=hsz 0 _ (g 0 hpos)
   have hes:es≠[]:=by intro e;subst e;simp at hl;omega
   have hdlt:b<w.heap.size:=hD _ _ (hd 0 (by omega)).1
   refine⟨b,off,ha hes,Nat.zero_le _,hdlt,fun i hi=>?_⟩
   have e0:=(hx i _ 0 _ (g i hi) rfl).v_inv
   have e1:=(hx i _ 1 _ (g i hi) rfl).v_inv
   have c0:=(hd (i * 2+0) (by omega)).2.1
   have c1:=(hd (i * 2+1) (by omega)).2.1
   rw [e0] at c0
   rw [e1] at c1
   exact⟨c0,c1,hb _ (List.getElem_mem _)⟩
theorem vG {D:Nat->Nat->Prop} {lo hi:Nat} {w:World} {v:Value} {l:List Iv} (h:RdR lo hi w v l) (hD:∀ b o,lo<=b->b<hi->D b o):Dat D w v (rg l):=by
 obtain⟨a,cap,rfl,h1,h2,h3⟩:=h
 unfold rg
 rw [show l.length=(l.map Q8).length by simp]
 by_cases hne:l=[]
 ·subst hne
  exact .sl a cap 2 [] .sh 0 0 (fun _=>undef) (by simp) (fun h=>by cases h) h2 (fun h=>absurd rfl h) (fun i e h=>by simp at h) (fun j h=>by simp at h) (fun i e j p h=>by simp at h)
 obtain⟨b,off,rfl,hb1,hb2,hc⟩:=h3 hne
 refine .sl _ cap 2 _ .sh b off (fun j=>(y6 l).getD j undef) (by simpa using h1) (fun h=>by cases h) h2 (fun _=>rfl) (fun i e h=>?_) (fun j hj=>?_) (fun i e j p he hp=>?_)
 ·simp only [List.getElem?_map,Option.map_eq_some_iff] at h
  obtain⟨s,_,rfl⟩:=h
  rfl
 ·simp only [List.length_map] at hj
  obtain⟨i,r,rfl,hr⟩:∃ i r,j=i * 2+r/\r<2:=⟨j / 2,j % 2,by omega,by omega⟩
  have hi:i<l.length:=by omega
  obtain⟨c0,c1,_,_⟩:=hc i hi
  obtain⟨f0,f1⟩:=x5 l i hi
  refine⟨hD _ _ hb1 hb2,?_⟩
  obtain rfl | rfl:r=0\/r=1:=by omega
  ·rw [List.getD_eq_getElem?_getD,Nat.add_zero,f0]
   exact⟨c0,by simp [Value.oneCell']⟩
  ·rw [List.getD_eq_getElem?_getD,f1]
   exact⟨c1,by simp [Value.oneCell']⟩
 ·have hi:i<l.length:=by have:=(List.getElem?_eq_some_iff.1 he).1;simpa using this
  rw [xA hi] at he
  cases he
  obtain⟨f0,f1⟩:=x5 l i hi
  match j,hp with
  | 0,hp=>cases hp;simp only [List.getD_eq_getElem?_getD,Nat.add_zero,f0];exact .v _
  | 1,hp=>cases hp;simp only [List.getD_eq_getElem?_getD,f1];exact .v _
  | j+2,hp=>simp [Q8] at hp
theorem Nrm.lt {l:List Iv} (h:Nrm l):∀ s ∈ l,s.lo<zm/\s.hi<zm:=fun s hs=>by
 have:=NF.lo_ge h s hs;omega
theorem X8 {f:FuncId} {ps:List PV} {r:PV} (hr:r.own=none) (hent:∀ args w,(callFunc f args).run Tryz.prog w=.ok (.enter f args) w)
 (h:∀(D:Nat->Nat->Prop) (w:World) (vs:Array Value),(∀ b o,D b o->b<w.heap.size)->vs.size=ps.length->(∀(i:Nat) p,ps[i]? = some p->Dat D w (vs.getD i undef) p) ->
   Calls Tryz.prog f vs w fun e w'=>∃ v,e=.returned v/\Below w.heap.size w w'/\Dat (fun b o=>D b o\/(w.heap.size<=b/\b<w'.heap.size)) w' v r):Cn Tryz.prog f ps r:=by
 refine⟨hent,fun D w vs _ hD hsz hd=>(h D w vs hD hsz hd).mono ?_⟩
 rintro e w' ⟨v,rfl,hb,hv⟩
 exact⟨v,_,rfl,hb,fun b o h=>.inl h,fun b o h=>h.imp id And.left,fun b o h=>h.elim (fun h=>Nat.lt_of_lt_of_le (hD b o h) hb.size) And.right,hv,zt hr⟩
theorem zfm {vs:Array Value} (h:vs.size=2):vs=#[vs.getD 0 undef,vs.getD 1 undef]:=by
 obtain⟨l⟩:=vs
 match l,h with
 | [x,y],_=>rfl
theorem zfy {f:FuncId} {a b r:List Iv} (ha:Nrm a) (hb:Nrm b) (hent:∀ args w,(callFunc f args).run Tryz.prog w=.ok (.enter f args) w)
 (h:∀ va vb w,RdR 0 w.heap.size w va a->RdR 0 w.heap.size w vb b->Calls Tryz.prog f #[va,vb] w fun e w'=>∃ v,e=.returned v/\OwnR w.heap.size w' v r/\Below w.heap.size w w'):Cn Tryz.prog f [rg a,rg b] (rg r):=by
 refine X8 rfl hent fun D w vs hD hsz hd=>?_
 rw [zfm hsz]
 refine(h _ _ w (vA (hd 0 _ rfl) hD ha.lt) (vA (hd 1 _ rfl) hD hb.lt)).mono ?_
 rintro e w' ⟨v,rfl,hv,hbl⟩
 exact⟨v,rfl,hbl,vG hv.rd fun b o h1 h2=>.inr ⟨h1,h2⟩⟩
theorem JW (a b:List Iv) (ha:Nrm a) (hb:Nrm b) (hl:a.length+b.length<=1073741824):Cn Tryz.prog 67 [rg a,rg b] (rg (qu zn a b)):=
 zfy ha hb (enters_of Tryz.func67 (by kernel_rfl) rfl) fun va vb w ra rb=>XE a b va vb w ha hb ra rb hl
theorem ze3 (a:List Iv) (s:Iv) (ha:Nrm a) (hs:s.lo<=s.hi) (hs':s.hi<zm) (hl:a.length<=1073741823):Cn Tryz.prog 136 [rg a,K6 s] (rg (qu zL [s] a)):=by
 refine X8 rfl (enters_of Tryz.func136 (by kernel_rfl) rfl) fun D w vs hD hsz hd=>?_
 rw [zfm hsz]
 have h1:vs.getD 1 undef=.agg #[.int .u64 s.lo,.int .u64 s.hi]:=by
  have:=hd 1 _ rfl
  unfold K6 at this
  generalize vs.getD 1 undef=v1 at this ⊢
  generalize hc:Q8 s=cs at this
  cases this with
  | agg us cs hs _ h=>
    subst hc
    obtain⟨l⟩:=us
    match l,hs with
    | [x,y],_=>
      have e0:=(h 0 _ rfl).v_inv
      have e1:=(h 1 _ rfl).v_inv
      simp at e0 e1
      rw [e0,e1]
 rw [h1]
 refine(KA a _ s w ha hs hs' (vA (hd 0 _ rfl) hD ha.lt) hl).mono ?_
 rintro e w' ⟨v,rfl,hv,hbl⟩
 exact⟨v,rfl,hbl,vG hv.rd fun b o h1 h2=>.inr ⟨h1,h2⟩⟩
attribute [go_sem] zbY zbX za6 zks zkq zkr zbo zdJ zdg zjf zjd zja zjg zi8 zjb zje zjc KD KC KE zbL
attribute [go_sem] zbI zbK zeE zeG zeF zaj zak zal zd4 zd5 zd6 Vi YX zjq ziM ziL qE PV.v.injEq
attribute [go_sem] exists_eq' exists_eq ne_eq not_false_eq_true not_true_eq_false List.append_eq_nil_iff List.cons_ne_nil zd7 zd8 zbR zel zjG zjH
attribute [go_sem] zgQ zgR zeo zcn zjN zjP zjO zjK zjM zjL PV.resD List.all_cons List.all_nil zbJ Ks Vm KT KS
attribute [go_sem] zi5 zgC zgD zgE zgF zgH zah zag zga zkh zdD zkP zkQ zgg zkl zfo zfp zjJ zhX zhY zhZ zh0 zhz
attribute [go_sem] zhy zhB zhA ziC ziB ziF ziE ziJ ziI ziH ziG X3 zaq zap X5 zar J5 J6 X4
attribute [go_sem] X6 zat zas J7 J8 X7 zdn zaZ zi9 zeS zeR zfV zfS zfU zfT zh8 zjj zji zhU zhS
attribute [go_sem] zdk zaW zdl zaX ziv zib ziz zid zlb zkM zla zkL zkU zkw zk6 zkG zk4 zkE zk8 zkJ zk9 zkK zk1 zkB zhK ziR ziQ ziP ziO zhm zhn
attribute [go_sem] zdN zbt zig zf8 zdy zf5 zf6 zf7 zdz zgb zgd zgU xA zbx zdP zdO Kz Int.cast_ofNat_Int
attribute [go_sem] Int.natCast_eq_zero List.length_eq_zero_iff decide_true decide_false List.filter_cons List.filter_nil List.contains_cons List.contains_nil Bool.or_false
attribute [go_sem] Bool.false_or Bool.or_true Bool.true_or Bool.and_false Bool.false_and List.any_cons List.any_nil List.mem_map forall_exists_index and_imp
attribute [go_sem] forall_apply_eq_imp_iff₂ List.mem_append List.mem_cons List.not_mem_nil List.mem_singleton or_false or_imp forall_and forall_eq_or_imp bne_self_eq_false
attribute [go_sem] Bool.bne_false Bool.bne_true Bool.false_bne Bool.true_bne beq_self_eq_true ziX ziY zlF zlG ziT ziU Vx Vw ziu zia zit
attribute [go_sem] zh9 ziA zie zk2 zkC zk3 zkD zk5 zkF zkH zk7 zkI zkX zky zkZ zkz ziy zix zgl zgj zgk zfY zfW zfX zlc zkN zld
attribute [go_sem] zkO zhC zhD zhE zhF ziw zic zg8 zj3 zkV zkY zjZ zjY zle zk0 zhH zhI zcV zfu zhJ zcW zft zkA zkW zht
attribute [go_sem] zhu zhr zhq zhs zhp zkx x9 xD xZ xy Jw zdx YD yo isT zex KV KX zcv zey zew zeu
attribute [go_sem] zcs zct zcu KW zlC zgY zg0 zjW zjT zjU zjV zgZ zi6 zdY zd0 zgB zi7 zi3 zgy zgz zgA
attribute [go_sem] zdZ zfF zaN zaP zdh zfG zfE zfC zdd zde zdf zaO zaQ zaA zc5 Ka Kc zaB
attribute [go_sem] zc6 zax zay zaz Kb Kd zjn zea zed zgN zjo zgK zgL zgM zeb zee zc4 zc2 zc3
attribute [go_sem] zjm zjk zjl zco zcp zgX zjS zjR zjQ zev zi4 zfD zih zdA zdC zge zgc zdB zad J1 zeD
attribute [go_sem] zj1 zez zeC zeB zg3 zg2 zg4 zg5 zj2 zj0 zg6 zcx K0 VY KY Z7 zcw KZ
attribute [go_sem] Value.int.injEq Value.bool.injEq Int.toNat_natCast Int.natCast_nonneg qn zhd Int.natCast_pos qP Value.oneCell' K6 rg Q8 xP rgs
attribute [go_sem] List.flatMap_nil List.length_cons List.length_nil List.map_cons List.map_nil List.nil_append List.cons_append List.append_nil List.getElem?_cons_zero
attribute [go_sem] List.getElem?_cons_succ List.getElem?_nil List.take_succ_cons List.take_zero List.drop_succ_cons List.drop_zero List.take_nil List.drop_nil
attribute [go_sem] List.set_cons_zero List.set_cons_succ List.length_map Option.map_some Option.some.injEq Option.isSome_some Option.getD_some decide_eq_true_eq
attribute [go_sem] Bool.and_eq_true Bool.or_eq_true true_and and_true false_and and_false forall_const true_implies false_implies implies_true Bool.true_eq_false
attribute [go_sem] Bool.false_eq_true Bool.not_true Bool.not_false Bool.and_true Bool.true_and Nat.zero_add Nat.add_zero Nat.le_refl Int.ofNat_le Int.ofNat_lt
attribute [go_sem] Int.ofNat_inj forall_eq
attribute [go_sem] zg1 zbw zdM zbs zh6 zkt zfN zfQ zh7 zh3 zh4 zfO zfR zh5 zfL zh2 zfM
theorem xM {a:Prop} (h:a:=by first | omega | assumption | exact True.intro | (show zae _ _=true;exact rfl) | (simp only [List.length_map,List.length_append,List.length_cons,List.length_nil,List.length_take,List.length_drop];omega)):a:=h
theorem zf:(∀ {p:Prop} [Decidable p],(decide p=true)=p)/\(∀ {p:Prop} {x:Decidable p},decide p=false ↔ ¬p)/\(∀(a b:Bool),((a && b)=true)=(a=true/\b=true))/\(∀(a b:Bool),((a || b)=true)=(a=true\/b=true))/\(∀(b:Bool),((!b)=true)=(b=false))/\(∀(b:Bool),((!b)=false)=(b=true))/\(∀ {x y:Bool},(x && y)=false ↔ x=false\/y=false)/\(∀ {x y:Bool},(x || y)=false ↔ x=false/\y=false)/\(∀ {a b:Nat},¬a<b ↔ b<=a)/\(∀ {a b:Int},¬a<b ↔ b<=a)/\(∀ {a b:Nat},¬a<=b ↔ b<a)/\(∀ {a b:Int},¬a<=b ↔ b<a)/\(∀ {n m:Nat},(n:Int)<(m:Int) ↔ n<m)/\(∀ {m n:Nat},(m:Int)<=(n:Int) ↔ m<=n)/\(∀ {m n:Nat},(m:Int)=(n:Int) ↔ m=n)/\(∀(x:Bool),(x ^^ false)=x)/\(∀(x:Bool),(false ^^ x)=x)/\(∀(x:Bool),(true ^^ x)=!x)/\(∀(x:Bool),(x ^^ true)=!x)/\((!true)=false)/\((!false)=true):=
 ⟨@decide_eq_true_eq,@decide_eq_false_iff_not,@Bool.and_eq_true,@Bool.or_eq_true,@Bool.not_eq_true',@Bool.not_eq_false',@Bool.and_eq_false_iff,@Bool.or_eq_false_iff,@Nat.not_lt,@Int.not_lt,@Nat.not_le,@Int.not_le,@Int.ofNat_lt,@Int.ofNat_le,@Int.ofNat_inj,@Bool.xor_false,@Bool.false_xor,@Bool.true_xor,@Bool.xor_true,Bool.not_true,Bool.not_false⟩
theorem pw {G G':Prop} (k:G') (e:Hd G'->G:=by intro k_;(try simp (maxSteps:=2000000) (disch:=omega) only [go_sem,seval]);(repeat ((with_reducible refine And.intro ?_ ?_);focus exact xM));exact k_.h):G:=e ⟨k⟩
theorem pd {G:Prop} (e:Hd True->G:=by intro k_;(try simp (maxSteps:=2000000) (disch:=omega) only [go_sem,seval]);(repeat ((with_reducible refine And.intro ?_ ?_);focus exact xM))):G:=e ⟨trivial⟩
theorem callP.c {P:Program} {K:PS->Prop} {d:Option Nat} {s:PS} {G':Prop} {f:FuncId} {xs:List PV} {r:PV} (h:Cn P f xs r) (k:G') (hd:zW xs=true:=by exact rfl) (e:Hd G'->K (s.put d r):=by intro k_;(try simp (maxSteps:=2000000) (disch:=omega) only [go_sem,seval]);(repeat ((with_reducible refine And.intro ?_ ?_);focus exact xM));exact k_.h):callP P f xs K d s:=.mk h hd (e ⟨k⟩)
theorem callQ.c {P:Program} {K:PS->Prop} {d:Option Nat} {s:PS} {G':Prop} {f:FuncId} {xs:List PV} {r:PV} (h:Cn P f xs r) (k:G') (hd:zW xs=true:=by exact rfl) (e:Hd G'->K (s.put d r.strip):=by intro k_;(try simp (maxSteps:=2000000) (disch:=omega) only [go_sem,seval]);(repeat ((with_reducible refine And.intro ?_ ?_);focus exact xM));exact k_.h):callQ P f xs K d s:=.mk h hd (e ⟨k⟩)
theorem callO.c {P:Program} {K:PS->Prop} {d:Option Nat} {s:PS} {n sz:Nat} {G':Prop} {f:FuncId} {es:List (List PV)} {xs:List PV} {r:PV} (h:Cn P f (.sl es .sh::xs) r) (k:G') (hd:zW xs=true:=by exact rfl) (e:Hd G'->K (s.put d r):=by intro k_;(try simp (maxSteps:=2000000) (disch:=omega) only [go_sem,seval]);(repeat ((with_reducible refine And.intro ?_ ?_);focus exact xM));exact k_.h):callO P f es n sz xs K d s:=.rd h hd (e ⟨k⟩)
theorem callO.o {P:Program} {K:PS->Prop} {d:Option Nat} {s:PS} {n sz:Nat} {G':Prop} {f:FuncId} {es rs:List (List PV)} {xs:List PV} (h:OCn P f es sz xs rs) (k:G') (hd:zW xs=true:=by exact rfl) (e:Hd G'->K ((s.down n).put d (.sl rs (.r n sz))):=by intro k_;(try simp (maxSteps:=2000000) (disch:=omega) only [go_sem,seval]);(repeat ((with_reducible refine And.intro ?_ ?_);focus exact xM));exact k_.h):callO P f es n sz xs K d s:=.mk h hd (e ⟨k⟩)
theorem callP.d {P:Program} {K:PS->Prop} {d:Option Nat} {s:PS} {f:FuncId} {xs:List PV} {r:PV} (h:Cn P f xs r) (hd:zW xs=true:=by exact rfl) (e:Hd True->K (s.put d r):=by intro k_;(try simp (maxSteps:=2000000) (disch:=omega) only [go_sem,seval]);(repeat ((with_reducible refine And.intro ?_ ?_);focus exact xM))):callP P f xs K d s:=.mk h hd (e ⟨trivial⟩)
theorem callQ.d {P:Program} {K:PS->Prop} {d:Option Nat} {s:PS} {f:FuncId} {xs:List PV} {r:PV} (h:Cn P f xs r) (hd:zW xs=true:=by exact rfl) (e:Hd True->K (s.put d r.strip):=by intro k_;(try simp (maxSteps:=2000000) (disch:=omega) only [go_sem,seval]);(repeat ((with_reducible refine And.intro ?_ ?_);focus exact xM))):callQ P f xs K d s:=.mk h hd (e ⟨trivial⟩)
theorem callO.d {P:Program} {K:PS->Prop} {d:Option Nat} {s:PS} {n sz:Nat} {f:FuncId} {es:List (List PV)} {xs:List PV} {r:PV} (h:Cn P f (.sl es .sh::xs) r) (hd:zW xs=true:=by exact rfl) (e:Hd True->K (s.put d r):=by intro k_;(try simp (maxSteps:=2000000) (disch:=omega) only [go_sem,seval]);(repeat ((with_reducible refine And.intro ?_ ?_);focus exact xM))):callO P f es n sz xs K d s:=.rd h hd (e ⟨trivial⟩)
theorem callO.q {P:Program} {K:PS->Prop} {d:Option Nat} {s:PS} {n sz:Nat} {f:FuncId} {es rs:List (List PV)} {xs:List PV} (h:OCn P f es sz xs rs) (hd:zW xs=true:=by exact rfl) (e:Hd True->K ((s.down n).put d (.sl rs (.r n sz))):=by intro k_;(try simp (maxSteps:=2000000) (disch:=omega) only [go_sem,seval]);(repeat ((with_reducible refine And.intro ?_ ?_);focus exact xM))):callO P f es n sz xs K d s:=.mk h hd (e ⟨trivial⟩)
theorem callP.rd {P:Program} {K:PS->Prop} {d:Option Nat} {s:PS} {f:FuncId} {xs:List PV} {r:PV} (h:Cn P f xs r) (hd:zW xs=true) (hk:K (s.put d r)):callP P f xs K d s:=.mk h hd hk
theorem callQ.rd {P:Program} {K:PS->Prop} {d:Option Nat} {s:PS} {f:FuncId} {xs:List PV} {r:PV} (h:Cn P f xs r) (hd:zW xs=true) (hk:K (s.put d r.strip)):callQ P f xs K d s:=.mk h hd hk
theorem brP.i {s:PS} {c:Bool} {X Y:PS->Prop} (h1:c=true->X s) (h2:c=false->Y s):brP (.v (.bool c)) X Y s:=.mk h1 h2
theorem pkP.i {s:PS} {c:Bool} {X Y:PS->Prop} (h1:c=true->X s) (h2:c=false->Y s):pkP (.v (.bool c)) X Y s:=.mk h1 h2
theorem gdP.i {s:PS} {d:Option Nat} {c b:Bool} {i:Nat} {X Y:PS->Prop} (h1:c=true->(match b with | true=>X (s.put (some i) (.v (.bool true))) | false=>Y ((s.put (some i) (.v (.bool true))).put d (.v undef)))) (h2:c=false->(match b with | true=>Y ((s.put (some i) (.v (.bool false))).put d (.v undef)) | false=>X (s.put (some i) (.v (.bool false))))):gdP (.v (.bool c)) i b d X Y s:=by
 cases b
 ·exact .mkf h1 h2
 ·exact .mkt h1 h2
theorem zz {P:Program} {f:FuncId} {fn:Func} (hf:P.funcs[f]? = some fn) {ps:List PV} {r:PV} (n:Nat) {G':Prop} (k:G') (hok:zbD P fn [] n=true:=by kernel_rfl) (hl:ps.length=n:=by exact rfl) (hps:∀ p ∈ ps,p.own=none:=by simp [go_sem,seval]) (e:Hd G'->pW P fn.ntmps True (zbO P fn []) (Qz (zgV P fn) r) ⟨qP 0 ps,[]⟩:=by intro k_;(conv=>arg 4;cbv);(conv=>enter [5,1];cbv);exact k_.h):Cn P f ps r:=zhL hf [] n hok hl hps (e ⟨k⟩)
end Go.Proofs.YtjimggclhlnfbaaGreat
namespace Go.Proofs.YtjimggclhlnfbaaGreat
open Go.ChangeShapes Go.WideShapes Go.ChangeAt Go.RowKit Go.Deep
def ky (w:World):Nat->Nat->Prop:=fun b _=>b<w.heap.size
def zfj (D:Nat->Nat->Prop) (w:World):List Value->List PV->Prop
 | [],[]=>True
 | v::l,p::ps=>Dat D w v p/\zfj D w l ps
 | _,_=>False
theorem YO {D:Nat->Nat->Prop} {w:World}:∀ {l:List Value} {ps:List PV},zfj D w l ps->l.length=ps.length/\∀(i:Nat) p,ps[i]? = some p->Dat D w (l.getD i undef) p
 | [],[],_=>⟨rfl,fun i p h=>by simp at h⟩
 | v::l,p::ps,h=>by
   obtain⟨h1,h2⟩:=YO h.2
   refine⟨by simp [h1],fun i q hq=>?_⟩
   cases i with
   | zero=>cases hq;exact h.1
   | succ i=>simpa using h2 i q (by simpa using hq)
 | [],_::_,h=>h.elim
 | _::_,[],h=>h.elim
theorem zc8 {f:FuncId} {ps:List PV} {l:List Value} {W:World} (h:Cn Tryz.prog f ps (.v (.bool true))) (hgl:GL (ky W) W) (hd:zfj (ky W) W l ps):Calls Tryz.prog f l.toArray W fun e W'=>e=.returned (.bool true)/\Below W.heap.size W W':=by
 obtain⟨h1,h2⟩:=YO hd
 refine(h.2 (ky W) W l.toArray hgl (fun _ _ h=>h) (by simpa using h1) (fun i p hp=>by have:=h2 i p hp;simpa [List.getD_eq_getElem?_getD] using this)).mono ?_
 rintro e W' ⟨v,D',rfl,hb,_,_,_,hv,_⟩
 rw [hv.v_inv]
 exact⟨rfl,hb⟩
section
variable {H:Type} {enc:TypeId × Value->H} {w:World} {base:Nat} {spare:Nat->Bool} {held:Bool}
end
end Go.Proofs.YtjimggclhlnfbaaGreat
namespace Go.Proofs.YtjimggclhlnfbaaGreat
open Go.RowKit
theorem zfZ (s:Iv) (x:Nat):Cn Tryz.prog 76 [K6 s,.v (.int .u64 x)] (.v (.bool (decide (s.lo<=x) && decide (x<=s.hi)))):=by
 refine zz Tryz.func76 2 ?_
 refine pw ?_
 refine .i ?_ ?_<;>intro h<;>(try simp only [zf] at h)<;>first | refine pw ?_ | exact pd
 ·simp [h]
 ·simp;omega
theorem zbq {l:List Iv} {k x:Nat} (h:k<l.length):mem (l.drop k) x=((decide (l[k].lo<=x) && decide (x<=l[k].hi)) || mem (l.drop (k+1)) x):=by
 rw [List.drop_eq_getElem_cons h];rfl
theorem Q4 (l:List Iv) (x:Nat) (hl:l.length<=1152921504606846976):Cn Tryz.prog 47 [rg l,.v (.int .u64 x)] (.v (.bool (mem l x))):=by
 refine zz Tryz.func47 2 ?_
 refine pw ?_
 refine pLoop.go (fun k=>k<=l.length/\mem l x=mem (l.drop k) x) (fun k=>[(5,.v (.int .i64 (k:Nat)))]) (fun _=>[]) (fun k=>l.length - k) 0 [5] ?_ ?_ ?_
 ·exact⟨Nat.zero_le _,rfl⟩
 ·exact pd
 ·rintro k ⟨hk,hm⟩
  refine pw ?_
  refine .i ?_ ?_<;>intro h<;>(try simp only [zf] at h)<;>first | refine pw ?_ | exact pd
  ·refine callP.mk (zfZ l[k] x) rfl ?_
   refine pw ?_
   have hd:=zbq (x:=x) h
   refine .i ?_ ?_<;>intro e<;>(try simp only [zf] at e)<;>first | refine pw ?_ | exact pd
   ·rw [hm,hd,<-Bool.decide_and];simp [e]
   ·refine⟨k+1,⟨h,?_⟩,by omega,rfl⟩
    rw [hm,hd,<-Bool.decide_and];simp [e];omega
  ·rw [hm,List.drop_of_length_le (by omega)];rfl
theorem ze0:Cn Tryz.prog 58 [] (.v (.int .u64 18446744073709551615)):=by
 refine zz Tryz.func58 0 ?_
 exact pd
theorem zci (s t:Iv) (h1:s.lo<zm) (h2:t.lo<zm):Cn Tryz.prog 112 [K6 s,K6 t] (.v (.int .i64 (zV s t:Nat))):=by
 refine zz Tryz.func112 2 ?_
 refine pw ?_
 have hM:=zA
 unfold zV
 refine .i ?_ ?_<;>intro h<;>(try simp only [zf] at h)<;>first | refine pw ?_ | exact pd
 ·refine .i ?_ ?_<;>intro h'<;>(try simp only [zf] at h')<;>first | refine pw ?_ | exact pd
  ·rw [if_pos h,if_pos (by omega)];rfl
  ·rw [if_pos h,if_neg (by omega)];rfl
 ·refine .i ?_ ?_<;>intro h'<;>(try simp only [zf] at h')<;>first | refine pw ?_ | exact pd
  ·refine .i ?_ ?_<;>intro h3<;>(try simp only [zf] at h3)<;>first | refine pw ?_ | exact pd
   ·rw [if_neg (by omega),if_pos h',if_pos (by omega)];rfl
   ·rw [if_neg (by omega),if_pos h',if_neg (by omega)];rfl
  ·rw [if_neg (by omega),if_neg (by omega)];rfl
theorem zg7 (a b:Bool) (op:Nat) (ho:op<3):Cn Tryz.prog 104 [.v (.bool a),.v (.bool b),.v (.int .i64 op)] (.v (.bool (opb op a b))):=by
 refine zz Tryz.func104 3 ?_
 obtain rfl | rfl | rfl:op=0\/op=1\/op=2:=by omega
 all_goals (cases a<;>cases b<;>simp (maxSteps:=2000000) (disch:=omega) only [go_sem,seval]<;>rfl)
theorem zd3 (l:List Nat) (k:Nat) (hk:k<l.length) (hl:l.length<=1152921504606846976) (hs:∀ h:k+1<l.length,1<=l[k+1]/\l[k+1]<zm):Cn Tryz.prog 35 [.sl (l.map fun x=>[.v (.int .u64 (x:Nat))]) .sh,.v (.int .i64 k)] (K6 ⟨l[k],if h:k+1<l.length then l[k+1] - 1 else zm - 1⟩):=by
 have hM:=zA
 refine zz Tryz.func35 2 ?_
 refine pw ?_
 refine .i ?_ ?_<;>intro h<;>(try simp only [zf] at h)<;>first | refine pw ?_ | exact pd
 ·obtain⟨h1,h2⟩:=hs h
  rw [dif_pos h]
  exact pd
 ·refine callQ.mk ze0 rfl ?_
  rw [dif_neg (by omega)]
  refine pw ?_
  rfl
theorem zbW {l:List Iv} (h:0<l.length) (s:Iv):Z3 l s=if l[l.length - 1].hi+1=s.lo then l.take (l.length - 1)++[⟨l[l.length - 1].lo,s.hi⟩] else l++[s]:=by
 unfold Z3
 rw [List.getLast?_eq_getElem?,List.getElem?_eq_getElem (by omega),List.dropLast_eq_take]
theorem zeh {l:List Iv} (h:l.length<=0) (s:Iv):Z3 l s=l++[s]:=by
 have:l=[]:=List.eq_nil_of_length_eq_zero (by omega)
 subst this;rfl
theorem zjp (l:List Iv) (s:Iv) (hs:s.lo<zm) (hb:∀ t ∈ l,t.lo<zm/\t.hi<s.lo) (hl:l.length<1099511627776):OCn Tryz.prog 105 (l.map Q8) 2 [K6 s] ((Z3 l s).map Q8):=by
 refine zgu Tryz.func105 [] 2 4 (by kernel_rfl) (by kernel_rfl) rfl (by simp [go_sem,seval]) ?_
 conv=>arg 4;cbv
 refine pw ?_
 refine .i ?_ ?_<;>intro h0<;>(try simp only [zf] at h0)<;>first | refine pw ?_ | exact pd
 ·refine callQ.mk (zci l[l.length - 1] s (hb _ (List.getElem_mem _)).1 hs) rfl ?_
  have h1:=(hb _ (List.getElem_mem (show l.length - 1<l.length by omega))).2
  refine pw ?_
  rw [zbW h0]
  unfold zV
  rw [if_pos h1]
  refine .i ?_ ?_<;>intro h<;>(try simp only [zf] at h)<;>first | refine pw ?_ | exact pd
  ·rw [if_pos (by split at h<;>first | assumption | cases h)]
   simp [Q8]
  ·rw [if_neg (by split at h<;>first | assumption | exact absurd rfl h)]
   simp [Q8]
 ·rw [zeh h0]
  simp [Q8]
end Go.Proofs.YtjimggclhlnfbaaGreat
