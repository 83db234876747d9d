import Derived.Attr
import Derived.Test.YtjimggclhlnfbaaGreatProg
import Derived.Test.YtjimggclhlnfbaaGreatB11
set_option linter.unusedVariables false
set_option linter.unusedSimpArgs false
set_option maxRecDepth 100000
namespace Go.Proofs.YtjimggclhlnfbaaGreat
open Go.RowKit
section
variable {P:Program} {nt:Nat} {fr:Prop} {d:Option Nat} {t:List (Nat × PV)} {b:List (List PV)} {s:PS} {K:PS->Prop} {Q:PX->PS->Prop} {l:List PI}
theorem zcb (i:Nat) (p:PV):PS.put ⟨t,b⟩ (some i) p=⟨(i,p)::t,b⟩:=Eq.trans rfl rfl
theorem zca (p:PV):PS.put ⟨t,b⟩ none p=⟨t,b⟩:=Eq.trans rfl rfl
theorem zbq (i:Nat):PS.get ⟨t,b⟩ i=yH t i:=Eq.trans rfl rfl
theorem zkB (i:Nat):PS.ev ⟨t,b⟩ (.t i)=yH t i:=Eq.trans rfl rfl
theorem zkz (p:PV):PS.ev s (.c p)=p:=Eq.trans rfl rfl
theorem zkA (f:FuncId):PS.ev s (.f f)=.fn (.func f) [] []:=Eq.trans rfl rfl
theorem zbI (j i:Nat) (p:PV) (r:List (Nat × PV)):yH ((j,p)::r) i=if j=i then p else yH r i:=Eq.trans rfl rfl
theorem zdS (i:Nat):yH [] i=.und:=Eq.trans rfl rfl
theorem zdq (n:Nat):PS.down n ⟨t,b⟩=⟨t.map fun y=>(y.1,y.2.down n),b.map fun cs=>cs.map (PV.down n)⟩:=Eq.trans rfl rfl
theorem zjo:pW P nt fr .sk Q s=Q .n s:=Eq.trans rfl rfl
theorem zjm (l:List PI):pW P nt fr (.rg l) Q s=zc P l (Q .n) s:=Eq.trans rfl rfl
theorem zjj (h l:List PI):pW P nt fr (.dr h l) Q s=ze P h (qT P fr h s.clean l (Q .n)) s.clean:=Eq.trans rfl rfl
theorem zjp (x y:PC):pW P nt fr (.sq x y) Q s=pW P nt fr x (jN (pW P nt fr y Q) Q) s:=Eq.trans rfl rfl
theorem zjh (id:Nat) (x:PC):pW P nt fr (.bk id x) Q s=pW P nt fr x (v5 id Q) s:=Eq.trans rfl rfl
theorem zjk (id:Nat):pW P nt fr (.ex id) Q s=Q (.x id) s:=Eq.trans rfl rfl
theorem zjn:pW P nt fr .rt Q s=Q .r s:=Eq.trans rfl rfl
theorem zjl (w:List Nat) (x:PC):pW P nt fr (.lp w x) Q s=pLoop (pW P nt fr x) Q s:=Eq.trans rfl rfl
theorem KU:zc P [] K s=K s:=Eq.trans rfl rfl
theorem KT:ze P [] K s=K s:=Eq.trans rfl rfl
theorem KV (h:List PI) (s0:PS):qT P fr h s0 [] K s=K s:=Eq.trans rfl rfl
theorem zb3 (h:List PI) (s0:PS) (d:Option Nat) (x y:PO) (n:Nat) (l:List PI):qT P fr h s0 (⟨d,none,.st x y n⟩::l) K s=zc P (⟨d,none,.st x y n⟩::l) K s:=by cases d<;>rfl
theorem zb0 (h:List PI) (s0:PS) (d:Option Nat) (zs:List PV) (l:List PI):qT P fr h s0 (⟨d,none,.al zs⟩::l) K s=zc P (⟨d,none,.al zs⟩::l) K s:=by cases d<;>rfl
theorem zb2 (h:List PI) (s0:PS) (d:Option Nat) (x:PO) (l:List PI):qT P fr h s0 (⟨d,none,.bo x⟩::l) K s=zc P (⟨d,none,.bo x⟩::l) K s:=by cases d<;>rfl
theorem zeK (K:PS->Prop):jN K Q .n s=K s:=Eq.trans rfl rfl
theorem zeM (K:PS->Prop) (i:Nat):jN K Q (.x i) s=Q (.x i) s:=Eq.trans rfl rfl
theorem zeL (K:PS->Prop):jN K Q .r s=Q .r s:=Eq.trans rfl rfl
theorem zaE (id:Nat):v5 id Q .n s=Q .n s:=Eq.trans rfl rfl
theorem zaF (id:Nat):v5 id Q .r s=Q .r s:=Eq.trans rfl rfl
theorem zaG (id i:Nat):v5 id Q (.x i) s=if i=id then Q .n s else Q (.x i) s:=Eq.trans rfl rfl
theorem zeb (rs:List RV) (r:PV):Zz rs r .n s=jq rs s r:=Eq.trans rfl rfl
theorem zec (rs:List RV) (r:PV):Zz rs r .r s=jq rs s r:=Eq.trans rfl rfl
theorem zed (rs:List RV) (r:PV) (i:Nat):Zz rs r (.x i) s=False:=Eq.trans rfl rfl
theorem zer (i:Nat) (r:PV):jq [.t i] s r=SubP 0 (s.get i) r:=Eq.trans rfl rfl
def VT (rs:List (List PV)) (sz:Nat):PV->Prop
 | .sl es (.r _ sz')=>es=rs/\sz'=sz
 | _=>False
theorem zee (i sz:Nat) (rs:List (List PV)):JW i rs sz .n s=VT rs sz (s.get i):=by
 show (match s.get i with | .sl es (.r _ sz')=>es=rs/\sz'=sz | _=>False)=_
 cases s.get i<;>rfl
theorem zef (i sz:Nat) (rs:List (List PV)):JW i rs sz .r s=VT rs sz (s.get i):=by
 show (match s.get i with | .sl es (.r _ sz')=>es=rs/\sz'=sz | _=>False)=_
 cases s.get i<;>rfl
theorem zb6 (es rs:List (List PV)) (n m sz:Nat):VT rs sz (.sl es (.r n m))=(es=rs/\m=sz):=Eq.trans rfl rfl
def zjN:Option PV->PV->Prop
 | some p,r=>p.resD=true/\SubP 0 p.sh r/\r.own=none
 | none,_=>False
def zjO:Option (List PV)->PV->Prop
 | some ps,r=>ps.all PV.resD=true/\SubP 0 (.tup (ps.map PV.sh)) r
 | none,_=>False
def rvC:Option PV->Option (List PV)->Option (List PV)
 | some p,some ps=>some (p::ps)
 | _,_=>none
def rvB:Option (List PV)->Nat->Bool->Nat->Option PV
 | some cs,o,true,n=>if o+n<=cs.length then some (.agg ((cs.drop o).take n)) else none
 | some cs,o,false,_=>cs[o]?
 | none,_,_,_=>none
def rvA:PV->List (List PV)->Bool->Nat->Option PV
 | .bx j o,b,ag,n=>rvB b[j]? o ag n
 | _,_,_,_=>none
theorem zjP (i:Nat) (ag:Bool) (n:Nat) (r:PV):jq [.c i ag n] s r=zjN (RV.get s (.c i ag n)) r:=by
 show (match RV.get s (.c i ag n) with | some p=>_ | none=>False)=_
 cases RV.get s (.c i ag n)<;>rfl
theorem zjQ (x y:RV) (l:List RV) (r:PV):jq (x::y::l) s r=zjO (X1 s (x::y::l)) r:=by
 have:jq (x::y::l) s r=(match X1 s (x::y::l) with | some ps=>ps.all PV.resD=true/\SubP 0 (.tup (ps.map PV.sh)) r | none=>False):=by cases x<;>rfl
 rw [this]
 cases X1 s (x::y::l)<;>rfl
theorem zgY (p r:PV):zjN (some p) r=(p.resD=true/\SubP 0 p.sh r/\r.own=none):=Eq.trans rfl rfl
theorem zgZ (ps:List PV) (r:PV):zjO (some ps) r=(ps.all PV.resD=true/\SubP 0 (.tup (ps.map PV.sh)) r):=Eq.trans rfl rfl
theorem zev:X1 s []=some []:=Eq.trans rfl rfl
theorem zcy (x:RV) (l:List RV):X1 s (x::l)=rvC (x.get s) (X1 s l):=by
 show ((x.get s).bind fun p=>(X1 s l).map fun ps=>p::ps)=_
 cases x.get s<;>cases X1 s l<;>rfl
theorem zjW (p:PV) (ps:List PV):rvC (some p) (some ps)=some (p::ps):=Eq.trans rfl rfl
theorem zjY (i:Nat):RV.get ⟨t,b⟩ (.t i)=some (yH t i):=Eq.trans rfl rfl
theorem zjX (i:Nat) (ag:Bool) (n:Nat):RV.get ⟨t,b⟩ (.c i ag n)=rvA (yH t i) b ag n:=by
 unfold RV.get
 simp only [zbq]
 cases yH t i<;>try rfl
 dsimp only [rvA]
 rename_i j o
 generalize b[j]? = c
 cases c<;>cases ag<;>rfl
theorem zjT (j o:Nat) (ag:Bool) (n:Nat):rvA (.bx j o) b ag n=rvB b[j]? o ag n:=Eq.trans rfl rfl
theorem zjV (cs:List PV) (o n:Nat):rvB (some cs) o true n=if o+n<=cs.length then some (.agg ((cs.drop o).take n)) else none:=Eq.trans rfl rfl
theorem zjU (cs:List PV) (o n:Nat):rvB (some cs) o false n=cs[o]?:=Eq.trans rfl rfl
def zay (h:List PI) (x:Nat):Bool:=h.any fun i=>i.d == some x
def cutP (P:Program) (h:List PI) (s0:PS) (n d:Nat) (E:Prop) (p:PV) (l:List PI) (K:PS->Prop) (F:Prop):Prop:=(E/\∃ keep,keepOk h n s0 keep/\zc P l K ⟨(d,p)::keep.map (fun j=>(j,s0.get j)),[]⟩)\/F
def zbo (P:Program) (h:List PI) (s0:PS) (d n sz i x:Nat) (es0 es:List (List PV)) (y:PO) (l:List PI) (K:PS->Prop) (p:PV) (s:PS):Prop:=
 (h.all fun y=>!(y.d == some i))=true/\s.get i=s0.get i/\es0=es/\(s.put (some x) (.sl es (.r n sz))).ev y=s.ev y/\zc P l K (((s.put (some x) (.sl es (.r n sz))).down n).put (some d) p)
def Zm (s:PS):List Nat->List (Nat × PV)
 | []=>[]
 | j::r=>(j,s.get j)::Zm s r
theorem Y8 (s:PS):∀ l,Zm s l=l.map fun j=>(j,s.get j)
 | []=>rfl
 | j::r=>by simp [Zm,Y8 s r]
theorem KG (s:PS):Zm s []=[]:=rfl
theorem Vw (s:PS) (j:Nat) (r:List Nat):Zm s (j::r)=(j,s.get j)::Zm s r:=rfl
theorem cutP.mk {h:List PI} {s0:PS} {n d:Nat} {E:Prop} {p:PV} {F:Prop} (keep:List Nat) (hE:E) (hk:keepOk h n s0 keep) (hl:zc P l K ⟨(d,p)::Zm s0 keep,[]⟩):cutP P h s0 n d E p l K F:=.inl ⟨hE,keep,hk,by rw [<-Y8];exact hl⟩
theorem cutP.full {h:List PI} {s0:PS} {n d i x:Nat} {E:Prop} {p:PV} {y:PO} {es0 es:List (List PV)} {sz:Nat} (h1:(h.all fun y=>!(y.d == some i))=true) (h2:s.get i=s0.get i) (h3:es0=es) (h4:(s.put (some x) (.sl es (.r n sz))).ev y=s.ev y) (hl:zc P l K (((s.put (some x) (.sl es (.r n sz))).down n).put (some d) p)) :
 cutP P h s0 n d E p l K (zbo P h s0 d n sz i x es0 es y l K p s):=.inr ⟨h1,h2,h3,h4,hl⟩
theorem keepOk.mk2 {h:List PI} {s0:PS} {n i j:Nat} (h1:(h.all fun y=>!(y.d == some i))=true) (h2:(h.all fun y=>!(y.d == some j))=true) (s1:xJ n (s0.get i)) (s2:xJ n (s0.get j)) (hd:(s0.get i).own=none\/(s0.get i).own≠(s0.get j).own):keepOk h n s0 [i,j]:=by
 refine⟨fun k hk=>?_,by simpa using hd⟩
 simp at hk
 rcases hk with rfl | rfl
 ·exact⟨h1,s1⟩
 ·exact⟨h2,s2⟩
theorem zab (n:Nat) (x:Value):xJ n (.v x)=True:=rfl
theorem zaa (n m sz:Nat) (es:List (List PV)):xJ n (.sl es (.r m sz))=(m≠n/\qD es/\∀ e ∈ es,e.length=sz):=rfl
theorem zje (es:List (List PV)) (n m:Nat):PV.own (.sl es (.r n m))=some n:=rfl
def zgQ (P:Program) (h:List PI) (s0:PS) (d i x sz by_:Nat) (y:PO) (es:List (List PV)) (q:PV) (l:List PI) (K:PS->Prop) (s:PS):PV->Prop
 | .sl es0 (.r n sz')=>sz'=sz/\ZG q fun es'=>(∀ e ∈ es,e.length=sz)/\(∀ e ∈ es',e.length=sz)/\(es.length+es'.length) * by_<=140737488355328/\es'≠[]/\cutP P h s0 n d (qD es/\qD es') (.sl (es++es') (.r n sz)) l K (zbo P h s0 d n sz i x es0 es y l K (.sl (es++es') (.r n sz)) s)
 | _=>False
def KS (P:Program) (fr:Prop) (h:List PI) (s0:PS) (d x sz by_:Nat) (y:PO) (q:PV) (l:List PI) (K:PS->Prop) (s:PS):PV->Prop
 | .sl es (.n sz')=>sz'=sz/\zay h x=true/\ZG q fun es'=>qD es/\qD es'/\(∀ e ∈ es,e.length=sz)/\(∀ e ∈ es',e.length=sz)/\(es.length+es'.length) * by_<=140737488355328/\es'≠[]/\zc P l K ((qA h s0).put (some d) (.sl (es++es') (.r d sz)))
 | .sl es (.p i)=>fr/\zay h x=true/\zgQ P h s0 d i x sz by_ y es q l K s (s0.get i)
 | _=>zc P (⟨some d,none,.ap (.t x) y sz by_⟩::l) K s
theorem zb1 (h:List PI) (s0:PS) (d x sz by_:Nat) (y:PO) (l:List PI):qT P fr h s0 (⟨some d,none,.ap (.t x) y sz by_⟩::l) K s=KS P fr h s0 d x sz by_ y (s.ev y) l K s (s.get x):=by
 unfold qT KS
 simp only
 cases s.get x<;>rfl
theorem zgM (h:List PI) (s0:PS) (d x sz by_ sz':Nat) (y:PO) (q:PV) (l:List PI) (es:List (List PV)):KS P fr h s0 d x sz by_ y q l K s (.sl es (.n sz'))=(sz'=sz/\zay h x=true/\ZG q fun es'=>qD es/\qD es'/\(∀ e ∈ es,e.length=sz)/\(∀ e ∈ es',e.length=sz)/\(es.length+es'.length) * by_<=140737488355328/\es'≠[]/\zc P l K ((qA h s0).put (some d) (.sl (es++es') (.r d sz)))):=rfl
theorem zgN (h:List PI) (s0:PS) (d x sz by_ i:Nat) (y:PO) (q:PV) (l:List PI) (es:List (List PV)):KS P fr h s0 d x sz by_ y q l K s (.sl es (.p i))=(fr/\zay h x=true/\zgQ P h s0 d i x sz by_ y es q l K s (s0.get i)):=rfl
theorem zgO (h:List PI) (s0:PS) (d x sz by_ n m:Nat) (y:PO) (q:PV) (l:List PI) (es:List (List PV)):KS P fr h s0 d x sz by_ y q l K s (.sl es (.r n m))=zc P (⟨some d,none,.ap (.t x) y sz by_⟩::l) K s:=rfl
theorem zgP (h:List PI) (s0:PS) (d x sz by_:Nat) (y:PO) (q:PV) (l:List PI) (es:List (List PV)):KS P fr h s0 d x sz by_ y q l K s (.sl es .z)=zc P (⟨some d,none,.ap (.t x) y sz by_⟩::l) K s:=rfl
theorem zgR (h:List PI) (s0:PS) (d i x sz by_ n sz':Nat) (y:PO) (es es0:List (List PV)) (q:PV) (l:List PI):zgQ P h s0 d i x sz by_ y es q l K s (.sl es0 (.r n sz'))=(sz'=sz/\ZG q fun es'=>(∀ e ∈ es,e.length=sz)/\(∀ e ∈ es',e.length=sz)/\(es.length+es'.length) * by_<=140737488355328/\es'≠[]/\cutP P h s0 n d (qD es/\qD es') (.sl (es++es') (.r n sz)) l K (zbo P h s0 d n sz i x es0 es y l K (.sl (es++es') (.r n sz)) s)):=rfl
def bCt:Option PV->Prop
 | some _=>True
 | none=>False
theorem zaC (p:PV):bCt (some p)=True:=Eq.trans rfl rfl
theorem zaB:bCt none=False:=Eq.trans rfl rfl
def JF (op:BinOp) (k:IntKind) (m n:Int):PV:=match op with
 | .add=>match k with | .i64=>.v (.int .i64 (m+n)) | k=>.v (.int k (k.wrap (m+n)))
 | .sub=>match k with | .i64=>.v (.int .i64 (m - n)) | k=>.v (.int k (k.wrap (m - n)))
 | .mul=>match k with | .i64=>.v (.int .i64 (m * n)) | k=>.v (.int k (k.wrap (m * n)))
 | .quo=>match k with | .i64=>.v (.int .i64 (m.tdiv n)) | k=>.v (.int k (k.wrap (m.tdiv n)))
 | .rem=>.v (.int k (m.tmod n))
 | .eql=>.v (.bool (decide (m=n)))
 | .neq=>.v (.bool (!decide (m=n)))
 | .lss=>.v (.bool (decide (m<n)))
 | .leq=>.v (.bool (decide (m<=n)))
 | .gtr=>.v (.bool (decide (n<m)))
 | .geq=>.v (.bool (decide (n<=m)))
 | .shr=>.v (.int k (zey k m n))
 | _=>.und
def rng (k:IntKind) (n:Int):Prop:=match k with
 | .i64 => -9223372036854775808<=n/\n<9223372036854775808
 | _=>True
def zdH (op:BinOp) (k:IntKind) (m n:Int):Prop:=match op with
 | .add=>rng k (m+n)
 | .sub=>rng k (m - n)
 | .mul=>rng k (m * n)
 | .quo=>n≠0/\rng k (m.tdiv n)
 | .rem=>n≠0
 | .shr=>0<=n
 | .eql | .neq | .lss | .leq | .gtr | .geq=>True
 | _=>False
def Kf (op:BinOp) (p q:PV):Prop:=match p,q with
 | .v (.int k a),.v (.int k' b)=>k=k'/\zdH op k a b
 | _,_=>False
def X6 (op:BinOp) (p q:PV):PV:=match p,q with
 | .v (.int k a),.v (.int _ b)=>JF op k a b
 | _,_=>.und
theorem zeq {k:IntKind} {n:Int} {K:PV->Prop}:J2 k n K=(rng k n/\K (match k with | .i64=>.v (.int .i64 n) | k=>.v (.int k (k.wrap n)))):=by
 cases k<;>simp [J2,rng]
theorem zck {op:BinOp} {p q:PV} {K:PV->Prop}:ZH op p q K=(Kf op p q/\K (X6 op p q)):=by
 unfold ZH Kf X6
 split
 ·rename_i k a k' b
  by_cases e:k=k'
  ·subst e
   cases op<;>simp [Ym,zdH,JF,zeq,and_assoc]
  ·simp [e]
 ·simp
def qS:PV->Prop
 | .v (.bool _)=>True
 | _=>False
def bV:PV->Bool
 | .v (.bool c)=>c
 | _=>false
theorem xf {p:PV} {K:Bool->Prop}:qQ p K=(qS p/\K (bV p)):=by
 unfold qQ qS bV
 split<;>simp
def qa:PV->Prop
 | .v (.int _ _)=>True
 | _=>False
def iK:PV->IntKind
 | .v (.int k _)=>k
 | _=>.i64
def iV:PV->Int
 | .v (.int _ n)=>n
 | _=>0
theorem xh {p:PV} {K:IntKind->Int->Prop}:vr p K=(qa p/\K (iK p) (iV p)):=by
 unfold vr qa iK iV
 split<;>simp
def yg:PV->Prop
 | .sl _ _=>True
 | _=>False
def eV:PV->List (List PV)
 | .sl es _=>es
 | _=>[]
theorem vK {p:PV} {K:List (List PV)->Prop}:ZG p K=(yg p/\K (eV p)):=by
 unfold ZG yg eV
 split<;>simp
theorem zgj (c:Bool):qS (.v (.bool c))=True:=Eq.trans rfl rfl
theorem zkq (c:Bool):bV (.v (.bool c))=c:=Eq.trans rfl rfl
theorem zdN (k:IntKind) (n:Int):qa (.v (.int k n))=True:=Eq.trans rfl rfl
theorem zkY (k:IntKind) (n:Int):iK (.v (.int k n))=k:=Eq.trans rfl rfl
theorem zkZ (k:IntKind) (n:Int):iV (.v (.int k n))=n:=Eq.trans rfl rfl
theorem zgp (es:List (List PV)) (o:Ow):yg (.sl es o)=True:=Eq.trans rfl rfl
theorem zku (es:List (List PV)) (o:Ow):eV (.sl es o)=es:=Eq.trans rfl rfl
theorem zfx (op:BinOp) (k k':IntKind) (m n:Int):Kf op (.v (.int k m)) (.v (.int k' n))=(k=k'/\zdH op k m n):=Eq.trans rfl rfl
theorem zfy (op:BinOp) (k k':IntKind) (m n:Int):X6 op (.v (.int k m)) (.v (.int k' n))=JF op k m n:=Eq.trans rfl rfl
theorem zjS (n:Int):rng .u64 n=True:=Eq.trans rfl rfl
def Jy:PV->Prop
 | .bx _ _=>True
 | .cp _ _=>True
 | _=>False
def faV (off:Nat):PV->PV
 | .bx i o=>.bx i (o+off)
 | .cp cs o=>.cp cs (o+off)
 | _=>.und
theorem zh5 (i o:Nat):Jy (.bx i o)=True:=Eq.trans rfl rfl
theorem zh6 (cs:List PV) (o:Nat):Jy (.cp cs o)=True:=Eq.trans rfl rfl
theorem zh7 (n i o:Nat):faV n (.bx i o)=.bx i (o+n):=Eq.trans rfl rfl
theorem zh8 (n:Nat) (cs:List PV) (o:Nat):faV n (.cp cs o)=.cp cs (o+n):=Eq.trans rfl rfl
def Qo (cs:List PV) (o:Nat) (ag:Bool) (n:Nat):Prop:=match ag with
 | true=>o+n<=cs.length
 | false=>cs[o]?.isSome=true
def ZW (cs:List PV) (o:Nat) (ag:Bool) (n:Nat):PV:=match ag with
 | true=>.agg ((cs.drop o).take n)
 | false=>cs[o]?.getD .und
theorem Yl {cs:List PV} {o:Nat} {ag:Bool} {n:Nat} {K:PV->Prop}:Xt cs o ag n K=(Qo cs o ag n/\K (ZW cs o ag n)):=by
 cases ag
 ·simp only [Xt,Qo,ZW];cases cs[o]?<;>simp
 ·simp [Xt,Qo,ZW]
theorem zhH (cs:List PV) (o n:Nat):Qo cs o true n=(o+n<=cs.length):=Eq.trans rfl rfl
theorem zhG (cs:List PV) (o n:Nat):Qo cs o false n=(cs[o]?.isSome=true):=Eq.trans rfl rfl
theorem zhJ (cs:List PV) (o n:Nat):ZW cs o true n=.agg ((cs.drop o).take n):=Eq.trans rfl rfl
theorem zhI (cs:List PV) (o n:Nat):ZW cs o false n=cs[o]?.getD .und:=Eq.trans rfl rfl
def ldC (bs:List (List PV)) (p:PV) (ag:Bool) (n:Nat):Prop:=match p with
 | .cp cs o=>Qo cs o ag n
 | .bx i o=>bs[i]?.isSome=true/\zX (((bs[i]?.getD []).drop o).take n)=true/\Qo (bs[i]?.getD []) o ag n
 | _=>False
def ldF (bs:List (List PV)) (p:PV):Prop:=match p with
 | .cp cs o=>Qo cs o false 1
 | .bx i o=>bs[i]?.isSome=true/\Qo (bs[i]?.getD []) o false 1
 | _=>False
theorem ziN (bs:List (List PV)) (cs:List PV) (o:Nat):ldF bs (.cp cs o)=Qo cs o false 1:=Eq.trans rfl rfl
theorem ziM (bs:List (List PV)) (i o:Nat):ldF bs (.bx i o)=(bs[i]?.isSome=true/\Qo (bs[i]?.getD []) o false 1):=Eq.trans rfl rfl
def ldV (bs:List (List PV)) (p:PV) (ag:Bool) (n:Nat):PV:=match p with
 | .cp cs o=>ZW cs o ag n
 | .bx i o=>ZW (bs[i]?.getD []) o ag n
 | _=>.und
theorem ziK (bs:List (List PV)) (cs:List PV) (o:Nat) (ag:Bool) (n:Nat):ldC bs (.cp cs o) ag n=Qo cs o ag n:=Eq.trans rfl rfl
theorem ziJ (bs:List (List PV)) (i o n:Nat) (ag:Bool):ldC bs (.bx i o) ag n=(bs[i]?.isSome=true/\zX (((bs[i]?.getD []).drop o).take n)=true/\Qo (bs[i]?.getD []) o ag n):=Eq.trans rfl rfl
theorem ziP (bs:List (List PV)) (cs:List PV) (o:Nat) (ag:Bool) (n:Nat):ldV bs (.cp cs o) ag n=ZW cs o ag n:=Eq.trans rfl rfl
theorem ziO (bs:List (List PV)) (i o:Nat) (ag:Bool) (n:Nat):ldV bs (.bx i o) ag n=ZW (bs[i]?.getD []) o ag n:=Eq.trans rfl rfl
def qq:PV->Prop
 | .agg _=>True
 | .v x=>x.oneCell'=true
 | .sl _ _=>True
 | .cp _ _=>True
 | .bx _ _=>True
 | .fn _ _ _=>True
 | .ifc _ _=>True
 | _=>False
def qh:PV->List PV
 | .agg cs=>cs
 | p=>[p]
theorem xG {p:PV} {K:List PV->Prop}:qR p K=(qq p/\K (qh p)):=by
 cases p<;>simp [qR,qq,qh]
theorem Vb (cs:List PV):qq (.agg cs)=True:=Eq.trans rfl rfl
theorem zaK (k:IntKind) (n:Int):qq (.v (.int k n))=True:=by simp [qq,Value.oneCell']
theorem zaJ (c:Bool):qq (.v (.bool c))=True:=by simp [qq,Value.oneCell']
theorem Vd:qq (.v .nilIface)=True:=by simp [qq,Value.oneCell']
theorem zaL (es:List (List PV)) (o:Ow):qq (.sl es o)=True:=Eq.trans rfl rfl
theorem Kh (i o:Nat):qq (.bx i o)=True:=Eq.trans rfl rfl
theorem Ki (f:Fn) (x y:List PV):qq (.fn f x y)=True:=Eq.trans rfl rfl
theorem Vc (t:TypeId) (x:PV):qq (.ifc t x)=True:=Eq.trans rfl rfl
theorem Ve (cs:List PV):qh (.agg cs)=cs:=Eq.trans rfl rfl
theorem zaN (x:Value):qh (.v x)=[.v x]:=Eq.trans rfl rfl
theorem zaM (es:List (List PV)) (o:Ow):qh (.sl es o)=[.sl es o]:=Eq.trans rfl rfl
theorem Kj (i o:Nat):qh (.bx i o)=[.bx i o]:=Eq.trans rfl rfl
theorem Kk (f:Fn) (x y:List PV):qh (.fn f x y)=[.fn f x y]:=Eq.trans rfl rfl
theorem Vf (t:TypeId) (x:PV):qh (.ifc t x)=[.ifc t x]:=Eq.trans rfl rfl
def vl (s:PS):List (Nat × Nat × PO)->List PV->Prop
 | [],_=>True
 | (off,n,x)::r,zs=>qq (s.ev x)/\(qh (s.ev x)).length=n/\off+n<=zs.length/\zX (qh (s.ev x))=true/\vl s r (YE zs ((qh (s.ev x)).map PV.sh) off)
def xF (s:PS):List (Nat × Nat × PO)->List PV->List PV
 | [],zs=>zs
 | (off,_,x)::r,zs=>xF s r (YE zs ((qh (s.ev x)).map PV.sh) off)
theorem ZF {K:List PV->Prop}:∀(ps:List (Nat × Nat × PO)) (zs:List PV),vu s ps zs K=(vl s ps zs/\K (xF s ps zs))
 | [],zs=>by simp [vu,vl,xF]
 | (off,n,x)::r,zs=>by simp [vu,vl,xF,xG,ZF r,and_assoc]
def x4 (s:PS) (sz:Nat):List PO->Prop
 | []=>True
 | x::r=>qq (s.ev x)/\(qh (s.ev x)).length=sz/\zX (qh (s.ev x))=true/\x4 s sz r
def xy (s:PS):List PO->List (List PV)
 | []=>[]
 | x::r=>(qh (s.ev x)).map PV.sh::xy s r
theorem jf {sz:Nat}:∀(ps:List PO) (K:List (List PV)->Prop),yB s sz ps K=(x4 s sz ps/\K (xy s ps))
 | [],K=>by simp [yB,x4,xy]
 | x::r,K=>by simp [yB,x4,xy,xG,jf r,and_assoc]
def bdC (s:PS):Option PO->Prop
 | none=>True
 | some y=>qa (s.ev y)/\0<=iV (s.ev y)
def Jk (s:PS) (n:Nat):Option PO->Nat
 | none=>n
 | some y=>(iV (s.ev y)).toNat
theorem J0 {y:Option PO} {n:Nat} {K:Nat->Prop}:KZ s y n K=(bdC s y/\K (Jk s n y)):=by
 cases y<;>simp [KZ,bdC,Jk,xh,and_assoc]
def callP (P:Program) (f:FuncId) (xs:List PV) (K:PS->Prop) (d:Option Nat) (s:PS):Prop:=∃ r,Cn P f xs r/\zX xs=true/\K (s.put d r)
def callQ (P:Program) (f:FuncId) (xs:List PV) (K:PS->Prop) (d:Option Nat) (s:PS):Prop:=∃ r,Cn P f xs r/\zX xs=true/\K (s.put d r.strip)
def callO (P:Program) (f:FuncId) (es:List (List PV)) (n sz:Nat) (xs:List PV) (K:PS->Prop) (d:Option Nat) (s:PS):Prop:=callP P f (.sl es .sh::xs) K d s\/∃ rs,OCn P f es sz xs rs/\zX xs=true/\K ((s.down n).put d (.sl rs (.r n sz)))
theorem callP.mk {f:FuncId} {xs:List PV} {r:PV} (h:Cn P f xs r) (hd:zX xs=true) (hk:K (s.put d r)):callP P f xs K d s:=⟨r,h,hd,hk⟩
theorem callQ.mk {f:FuncId} {xs:List PV} {r:PV} (h:Cn P f xs r) (hd:zX xs=true) (hk:K (s.put d r.strip)):callQ P f xs K d s:=⟨r,h,hd,hk⟩
theorem callO.mk {f:FuncId} {es rs:List (List PV)} {n sz:Nat} {xs:List PV} (h:OCn P f es sz xs rs) (hd:zX xs=true) (hk:K ((s.down n).put d (.sl rs (.r n sz)))):callO P f es n sz xs K d s:=.inr ⟨rs,h,hd,hk⟩
theorem callO.rd {f:FuncId} {es:List (List PV)} {n sz:Nat} {xs:List PV} {r:PV} (h:Cn P f (.sl es .sh::xs) r) (hd:zX xs=true) (hk:K (s.put d r)):callO P f es n sz xs K d s:=.inl ⟨r,h,by simpa [zX,PV.isD] using hd,hk⟩
def jW (s:PS) (xs:List PO):List PV:=xs.map fun x=>(s.ev x).sh
theorem zdx:jW s []=[]:=Eq.trans rfl rfl
theorem zbj (x:PO) (xs:List PO):jW s (x::xs)=(s.ev x).sh::jW s xs:=Eq.trans rfl rfl
def caD (P:Program) (f:FuncId) (p:PV) (xs:List PV) (K:PS->Prop) (d:Option Nat) (s:PS):Prop:=match p with
 | .sl es (.r n sz)=>callO P f es n sz xs K d s
 | p=>callP P f (p.sh::xs) K d s
def brP (c:PV) (X Y:PS->Prop) (s:PS):Prop:=qS c/\if bV c=true then X s else Y s
theorem zji (c:PO) (x y:PC):pW P nt fr (.cd c x y) Q s=brP (s.ev c) (pW P nt fr x Q) (pW P nt fr y Q) s:=by
 show qQ _ _=_
 rw [xf]
 unfold brP
 cases bV (s.ev c)<;>simp
theorem zeY (X Y:PS->Prop):brP (.v (.bool true)) X Y s=X s:=by simp [brP,qS,bV]
theorem zeX (X Y:PS->Prop):brP (.v (.bool false)) X Y s=Y s:=by simp [brP,qS,bV]
theorem brP.mk {c:Bool} {X Y:PS->Prop} (h1:c=true->X s) (h2:c=false->Y s):brP (.v (.bool c)) X Y s:=by
 refine⟨trivial,?_⟩
 cases c
 ·exact h2 rfl
 ·exact h1 rfl
theorem brP.yes {c:Bool} {X Y:PS->Prop} (h:c=true) (h1:X s):brP (.v (.bool c)) X Y s:=by subst h;rw [zeY];exact h1
theorem brP.no {c:Bool} {X Y:PS->Prop} (h:c=false) (h1:Y s):brP (.v (.bool c)) X Y s:=by subst h;rw [zeX];exact h1
def JT:PV->Prop
 | .v (.bool _)=>True
 | .v (.tuple vs)=>vs=#[]
 | _=>False
def wq (p:PV) (b:Bool):Prop:=match p with
 | .v (.bool c)=>c=b
 | _=>False
instance (p:PV) (b:Bool):Decidable (wq p b):=by unfold wq;split<;>infer_instance
def noS (s:PS) (i:Nat) (b:Bool):PV->PS
 | .v (.bool _)=>s.put (some i) (.v (.bool !b))
 | _=>s
theorem zi6 (c:Bool):JT (.v (.bool c))=True:=Eq.trans rfl rfl
theorem zi7:JT (.v undef)=True:=by simp [JT,undef]
theorem zlO (c b:Bool):wq (.v (.bool c)) b=(c=b):=Eq.trans rfl rfl
theorem zlP (b:Bool):wq (.v undef) b=False:=by simp [wq,undef]
theorem zi2 (i:Nat) (b c:Bool):noS s i b (.v (.bool c))=s.put (some i) (.v (.bool !b)):=Eq.trans rfl rfl
theorem zi3 (i:Nat) (b:Bool):noS s i b (.v undef)=s:=Eq.trans rfl rfl
theorem Qw {i:Nat} {b:Bool} {k:PK} {yes no:PS->Prop}:PI.guard ⟨d,some (i,b),k⟩ s yes no=(JT (s.get i)/\if wq (s.get i) b then yes (s.put (some i) (.v (.bool b))) else no (noS s i b (s.get i))):=by
 unfold PI.guard
 simp only
 cases h:s.get i with
 | v x=>
   cases x<;>try (simp [JT];done)
   ·rename_i c
    simp only [JT,wq,noS,true_and]
    cases c<;>cases b<;>simp
   ·simp [JT,wq,noS]
 | _=>simp [JT]
def gdP (g:PV) (i:Nat) (b:Bool) (d:Option Nat) (X Y:PS->Prop) (s:PS):Prop:=JT g/\if wq g b then X (s.put (some i) (.v (.bool b))) else Y ((noS s i b g).put d (.v undef))
theorem VM (i:Nat) (b:Bool) (k:PK):zc P (⟨d,some (i,b),k⟩::l) K s=gdP (s.get i) i b d (zc P (⟨d,none,k⟩::l) K) (zc P l K) s:=Qw
theorem VL (i:Nat) (b:Bool) (k:PK):ze P (⟨d,some (i,b),k⟩::l) K s=gdP (s.get i) i b d (ze P (⟨d,none,k⟩::l) K) (ze P l K) s:=Qw
theorem zf4 (i:Nat) (X Y:PS->Prop):gdP (.v (.bool true)) i true d X Y s=X (s.put (some i) (.v (.bool true))):=by simp [gdP,JT,wq]
theorem zf1 (i:Nat) (X Y:PS->Prop):gdP (.v (.bool false)) i false d X Y s=X (s.put (some i) (.v (.bool false))):=by simp [gdP,JT,wq]
theorem zf3 (i:Nat) (X Y:PS->Prop):gdP (.v (.bool true)) i false d X Y s=Y ((s.put (some i) (.v (.bool true))).put d (.v undef)):=by simp [gdP,JT,wq,noS]
theorem zf2 (i:Nat) (X Y:PS->Prop):gdP (.v (.bool false)) i true d X Y s=Y ((s.put (some i) (.v (.bool false))).put d (.v undef)):=by simp [gdP,JT,wq,noS]
theorem zig (i:Nat) (b:Bool) (X Y:PS->Prop):gdP (.v undef) i b d X Y s=Y (s.put d (.v undef)):=by simp [gdP,JT,wq,noS,undef]
theorem gdP.mkt {c:Bool} {i:Nat} {X Y:PS->Prop} (h1:c=true->X (s.put (some i) (.v (.bool true)))) (h2:c=false->Y ((s.put (some i) (.v (.bool false))).put d (.v undef))):gdP (.v (.bool c)) i true d X Y s:=by
 refine⟨trivial,?_⟩
 cases c<;>simp [wq,noS]<;>first | exact h1 rfl | exact h2 rfl
theorem gdP.mkf {c:Bool} {i:Nat} {X Y:PS->Prop} (h1:c=true->Y ((s.put (some i) (.v (.bool true))).put d (.v undef))) (h2:c=false->X (s.put (some i) (.v (.bool false)))):gdP (.v (.bool c)) i false d X Y s:=by
 refine⟨trivial,?_⟩
 cases c<;>simp [wq,noS]<;>first | exact h1 rfl | exact h2 rfl
theorem zcd (op:BinOp) (x y:PO) {Kv:PV->Prop}:PK.q P s (.bin op x y) Kv=(Kf op (s.ev x) (s.ev y)/\Kv (X6 op (s.ev x) (s.ev y))):=by
 simp only [PK.q,zck]
theorem zcc (n:Bool) (x y:PO) {Kv:PV->Prop}:PK.q P s (.beq n x y) Kv=((qS (s.ev x)/\qS (s.ev y))/\Kv (.v (.bool (n != (bV (s.ev x) == bV (s.ev y)))))):=by
 simp only [PK.q,xf,and_assoc]
theorem zci (x:PO) {Kv:PV->Prop}:PK.q P s (.not x) Kv=(qS (s.ev x)/\Kv (.v (.bool (!bV (s.ev x))))):=by
 simp only [PK.q,xf]
theorem zfg (k:IntKind) (x:PO) {Kv:PV->Prop}:PK.q P s (.cv k x) Kv=(qa (s.ev x)/\Kv (.v (.int k (k.wrap (iV (s.ev x)))))):=by
 simp only [PK.q,xh]
theorem zfi (x:PO) (o:Nat) {Kv:PV->Prop}:PK.q P s (.fa x o) Kv=(Jy (s.ev x)/\Kv (faV o (s.ev x))):=by
 simp only [PK.q]
 cases s.ev x<;>simp [Jy,faV]
theorem zfk (x y:PO) (n:Nat) {Kv:PV->Prop}:PK.q P s (.ia x y n) Kv=((yg (s.ev x)/\qa (s.ev y)/\0<=iV (s.ev y)/\(eV (s.ev x))[(iV (s.ev y)).toNat]?.map List.length=some n)/\Kv (.cp ((eV (s.ev x))[(iV (s.ev y)).toNat]?.getD []) 0)):=by
 simp only [PK.q,vK,xh,and_assoc]
 cases h:(eV (s.ev x))[(iV (s.ev y)).toNat]?<;>simp [h]
theorem zcf (x:PO) (ag:Bool) (n:Nat) {Kv:PV->Prop}:PK.q P s (.ld x ag n) Kv=(ldC s.b (s.ev x) ag n/\Kv ((ldV s.b (s.ev x) ag n).strip)):=by
 simp only [PK.q]
 cases s.ev x<;>simp only [ldC,ldV,Yl,false_and]
 rename_i i o
 cases s.b[i]?<;>simp [and_assoc]
theorem zfm (x:PO) {Kv:PV->Prop}:PK.q P s (.ln x) Kv=(yg (s.ev x)/\Kv (.v (.int .i64 (eV (s.ev x)).length))):=by
 simp only [PK.q,vK]
theorem zff (zs:List PV) (ps:List (Nat × Nat × PO)) {Kv:PV->Prop}:PK.q P s (.bd zs ps) Kv=(vl s ps zs/\Kv (.agg (xF s ps zs))):=by
 simp only [PK.q,ZF]
theorem zjE (n:Nat) (ps:List PO) {Kv:PV->Prop}:PK.q P s (.bs n ps) Kv=(x4 s n ps/\Kv (.sl (xy s ps) .z)):=by
 simp only [PK.q,jf]
theorem ziC (op:BinOp) (x y:PO):zc P (⟨d,none,.bin op x y⟩::l) K s=(Kf op (s.ev x) (s.ev y)/\zc P l K (s.put d (X6 op (s.ev x) (s.ev y)))):=zcd (P:=P) (s:=s) op x y (Kv:=fun p=>zc P l K (s.put d p))
theorem zii (op:BinOp) (x y:PO):ze P (⟨d,none,.bin op x y⟩::l) K s=(Kf op (s.ev x) (s.ev y)/\PV.own (X6 op (s.ev x) (s.ev y))=none/\ze P l K (s.put d (X6 op (s.ev x) (s.ev y)))):=zcd (P:=P) (s:=s) op x y (Kv:=fun p=>p.own=none/\ze P l K (s.put d p))
theorem ziB (n:Bool) (x y:PO):zc P (⟨d,none,.beq n x y⟩::l) K s=((qS (s.ev x)/\qS (s.ev y))/\zc P l K (s.put d (.v (.bool (n != (bV (s.ev x) == bV (s.ev y))))))):=zcc (P:=P) (s:=s) n x y (Kv:=fun p=>zc P l K (s.put d p))
theorem zih (n:Bool) (x y:PO):ze P (⟨d,none,.beq n x y⟩::l) K s=((qS (s.ev x)/\qS (s.ev y))/\PV.own (.v (.bool (n != (bV (s.ev x) == bV (s.ev y)))))=none/\ze P l K (s.put d (.v (.bool (n != (bV (s.ev x) == bV (s.ev y))))))):=zcc (P:=P) (s:=s) n x y (Kv:=fun p=>p.own=none/\ze P l K (s.put d p))
theorem ziI (x:PO):zc P (⟨d,none,.not x⟩::l) K s=(qS (s.ev x)/\zc P l K (s.put d (.v (.bool (!bV (s.ev x)))))):=zci (P:=P) (s:=s) x (Kv:=fun p=>zc P l K (s.put d p))
theorem zim (x:PO):ze P (⟨d,none,.not x⟩::l) K s=(qS (s.ev x)/\PV.own (.v (.bool (!bV (s.ev x))))=none/\ze P l K (s.put d (.v (.bool (!bV (s.ev x)))))):=zci (P:=P) (s:=s) x (Kv:=fun p=>p.own=none/\ze P l K (s.put d p))
theorem zlb (k:IntKind) (x:PO):zc P (⟨d,none,.cv k x⟩::l) K s=(qa (s.ev x)/\zc P l K (s.put d (.v (.int k (k.wrap (iV (s.ev x))))))):=zfg (P:=P) (s:=s) k x (Kv:=fun p=>zc P l K (s.put d p))
theorem zkL (k:IntKind) (x:PO):ze P (⟨d,none,.cv k x⟩::l) K s=(qa (s.ev x)/\PV.own (.v (.int k (k.wrap (iV (s.ev x)))))=none/\ze P l K (s.put d (.v (.int k (k.wrap (iV (s.ev x))))))):=zfg (P:=P) (s:=s) k x (Kv:=fun p=>p.own=none/\ze P l K (s.put d p))
theorem zlc (x:PO) (o:Nat):zc P (⟨d,none,.fa x o⟩::l) K s=(Jy (s.ev x)/\zc P l K (s.put d (faV o (s.ev x)))):=zfi (P:=P) (s:=s) x o (Kv:=fun p=>zc P l K (s.put d p))
theorem zkM (x:PO) (o:Nat):ze P (⟨d,none,.fa x o⟩::l) K s=(Jy (s.ev x)/\PV.own (faV o (s.ev x))=none/\ze P l K (s.put d (faV o (s.ev x)))):=zfi (P:=P) (s:=s) x o (Kv:=fun p=>p.own=none/\ze P l K (s.put d p))
theorem zle (x y:PO) (n:Nat):zc P (⟨d,none,.ia x y n⟩::l) K s=((yg (s.ev x)/\qa (s.ev y)/\0<=iV (s.ev y)/\(eV (s.ev x))[(iV (s.ev y)).toNat]?.map List.length=some n)/\zc P l K (s.put d (.cp ((eV (s.ev x))[(iV (s.ev y)).toNat]?.getD []) 0))):=zfk (P:=P) (s:=s) x y n (Kv:=fun p=>zc P l K (s.put d p))
theorem zkO (x y:PO) (n:Nat):ze P (⟨d,none,.ia x y n⟩::l) K s=((yg (s.ev x)/\qa (s.ev y)/\0<=iV (s.ev y)/\(eV (s.ev x))[(iV (s.ev y)).toNat]?.map List.length=some n)/\PV.own (.cp ((eV (s.ev x))[(iV (s.ev y)).toNat]?.getD []) 0)=none/\ze P l K (s.put d (.cp ((eV (s.ev x))[(iV (s.ev y)).toNat]?.getD []) 0))):=zfk (P:=P) (s:=s) x y n (Kv:=fun p=>p.own=none/\ze P l K (s.put d p))
theorem zkQ (x:PO) (ag:Bool) (n:Nat):ze P (⟨d,none,.ld x ag n⟩::l) K s=(ldC s.b (s.ev x) ag n/\PV.own ((ldV s.b (s.ev x) ag n).strip)=none/\ze P l K (s.put d ((ldV s.b (s.ev x) ag n).strip))):=zcf (P:=P) (s:=s) x ag n (Kv:=fun p=>p.own=none/\ze P l K (s.put d p))
theorem zlg (x:PO):zc P (⟨d,none,.ln x⟩::l) K s=(yg (s.ev x)/\zc P l K (s.put d (.v (.int .i64 (eV (s.ev x)).length)))):=zfm (P:=P) (s:=s) x (Kv:=fun p=>zc P l K (s.put d p))
theorem zkR (x:PO):ze P (⟨d,none,.ln x⟩::l) K s=(yg (s.ev x)/\PV.own (.v (.int .i64 (eV (s.ev x)).length))=none/\ze P l K (s.put d (.v (.int .i64 (eV (s.ev x)).length)))):=zfm (P:=P) (s:=s) x (Kv:=fun p=>p.own=none/\ze P l K (s.put d p))
theorem zk6 (zs:List PV) (ps:List (Nat × Nat × PO)):zc P (⟨d,none,.bd zs ps⟩::l) K s=(vl s ps zs/\zc P l K (s.put d (.agg (xF s ps zs)))):=zff (P:=P) (s:=s) zs ps (Kv:=fun p=>zc P l K (s.put d p))
theorem zkH (zs:List PV) (ps:List (Nat × Nat × PO)):ze P (⟨d,none,.bd zs ps⟩::l) K s=(vl s ps zs/\PV.own (.agg (xF s ps zs))=none/\ze P l K (s.put d (.agg (xF s ps zs)))):=zff (P:=P) (s:=s) zs ps (Kv:=fun p=>p.own=none/\ze P l K (s.put d p))
theorem zk8 (i n:Nat) (ps:List PO):zc P (⟨some i,none,.bs n ps⟩::l) K s=(x4 s n ps/\zc P l K (s.put (some i) (.sl (xy s ps) (.r i n)))):=by
 show PK.e P (.bs n ps) (some i) s (zc P l K)=_
 simp only [PK.e,jf]
theorem zkI (n:Nat) (ps:List PO):ze P (⟨d,none,.bs n ps⟩::l) K s=(x4 s n ps/\PV.own (.sl (xy s ps) .z)=none/\ze P l K (s.put d (.sl (xy s ps) .z))):=zjE (P:=P) (s:=s) n ps (Kv:=fun p=>p.own=none/\ze P l K (s.put d p))
theorem ziG (x:PO) (n:Nat):zc P (⟨d,none,.ld x true n⟩::l) K s=(ldC s.b (s.ev x) true n/\zc P l K (s.put d (ldV s.b (s.ev x) true n).strip)):=zcf (P:=P) (s:=s) x true n (Kv:=fun p=>zc P l K (s.put d p))
def ldW (bs:List (List PV)) (p:PV):PV:=match p with
 | .cp cs o=>(ZW cs o false 1).strip
 | .bx i o=>ZW (bs[i]?.getD []) o false 1
 | _=>.und
theorem ziR (bs:List (List PV)) (cs:List PV) (o:Nat):ldW bs (.cp cs o)=(ZW cs o false 1).strip:=Eq.trans rfl rfl
theorem ziQ (bs:List (List PV)) (i o:Nat):ldW bs (.bx i o)=ZW (bs[i]?.getD []) o false 1:=Eq.trans rfl rfl
theorem ziF (x:PO):zc P (⟨d,none,.ld x false 1⟩::l) K s=(ldF s.b (s.ev x)/\zc P l K (s.put d (ldW s.b (s.ev x)))):=by
 show PK.e P (.ld x false 1) d s (zc P l K)=_
 simp only [PK.e]
 split
 ·rename_i i o h
  rw [h]
  simp only [ldF,ldW,Qo,ZW]
  cases s.b[i]? with
  | none=>simp
  | some cs=>cases hc:cs[o]?<;>simp [hc]
 ·rename_i h
  rw [zcf]
  cases hx:s.ev x<;>first | rfl | exact absurd hx (h _ _) | (simp [ldC,ldF];done)
theorem zgu (i:Nat):zc P (⟨d,none,.mv (.t i)⟩::l) K s=zc P l K (s.put d (s.get i)):=Eq.trans rfl rfl
theorem zgs (p:PV):zc P (⟨d,none,.mv (.c p)⟩::l) K s=zc P l K (s.put d p.strip):=Eq.trans rfl rfl
theorem zgt (f:FuncId):zc P (⟨d,none,.mv (.f f)⟩::l) K s=zc P l K (s.put d (.fn (.func f) [] [])):=Eq.trans rfl rfl
theorem zf7 (i:Nat):ze P (⟨d,none,.mv (.t i)⟩::l) K s=(((s.get i).pre i).own=none/\ze P l K (s.put d ((s.get i).pre i))):=Eq.trans rfl rfl
theorem zf5 (p:PV):ze P (⟨d,none,.mv (.c p)⟩::l) K s=(p.strip.own=none/\ze P l K (s.put d p.strip)):=Eq.trans rfl rfl
theorem zf6 (f:FuncId):ze P (⟨d,none,.mv (.f f)⟩::l) K s=ze P l K (s.put d (.fn (.func f) [] [])):=by
 show (_=none/\_)=_
 simp only [PS.ev,PV.strip,PV.own,true_and]
def pkP (c:PV) (X Y:PS->Prop) (s:PS):Prop:=qS c/\if bV c=true then X s else Y s
theorem zll (c x y:PO):zc P (⟨d,none,.pk c x y⟩::l) K s=pkP (s.ev c) (fun s'=>zc P l K (s'.put d (s'.ev x).strip)) (fun s'=>zc P l K (s'.put d (s'.ev y).strip)) s:=by
 show qQ _ _=_
 rw [xf]
 unfold pkP
 cases bV (s.ev c)<;>simp
theorem zkW (c x y:PO):ze P (⟨d,none,.pk c x y⟩::l) K s=pkP (s.ev c) (fun s'=>ze P l K (s'.put d (s'.ev x).strip)) (fun s'=>ze P l K (s'.put d (s'.ev y).strip)) s:=by
 show qQ _ _=_
 rw [xf]
 unfold pkP
 cases bV (s.ev c)<;>simp [PV.strip_own]
theorem zjs (X Y:PS->Prop):pkP (.v (.bool true)) X Y s=X s:=by simp [pkP,qS,bV]
theorem zjr (X Y:PS->Prop):pkP (.v (.bool false)) X Y s=Y s:=by simp [pkP,qS,bV]
theorem pkP.mk {c:Bool} {X Y:PS->Prop} (h1:c=true->X s) (h2:c=false->Y s):pkP (.v (.bool c)) X Y s:=by
 refine⟨trivial,?_⟩
 cases c
 ·exact h2 rfl
 ·exact h1 rfl
def eqC (m:Nat) (p q:PV):Prop:=match p,q with
 | .agg xs,.agg ys=>xs.length=m/\vR xs ys
 | _,_=>False
def eqB (p q:PV):Bool:=match p,q with
 | .agg xs,.agg ys=>xz xs ys
 | _,_=>false
theorem zh2 (m:Nat) (xs ys:List PV):eqC m (.agg xs) (.agg ys)=(xs.length=m/\vR xs ys):=Eq.trans rfl rfl
theorem zh0 (xs ys:List PV):eqB (.agg xs) (.agg ys)=xz xs ys:=Eq.trans rfl rfl
theorem zdu:vR [] []=True:=Eq.trans rfl rfl
theorem zbg (k k':IntKind) (a b:Int) (r r':List PV):vR (.v (.int k a)::r) (.v (.int k' b)::r')=(k=k'/\vR r r'):=by rw [vR]
theorem zdv:xz [] []=true:=Eq.trans rfl rfl
theorem zbh (k k':IntKind) (a b:Int) (r r':List PV):xz (.v (.int k a)::r) (.v (.int k' b)::r')=(decide (a=b) && xz r r'):=by rw [xz]
theorem zce (n:Bool) (x y:PO) (m:Nat) {Kv:PV->Prop}:PK.q P s (.eq2 n x y m) Kv=(eqC m (s.ev x) (s.ev y)/\Kv (.v (.bool (n != eqB (s.ev x) (s.ev y))))):=by
 simp only [PK.q]
 generalize s.ev x=p
 generalize s.ev y=q
 unfold K1 eqC eqB
 cases p<;>cases q<;>simp
def nlC:PV->Prop
 | .v .nilIface=>True
 | .ifc _ _=>True
 | _=>False
def nlB:PV->Bool
 | .v .nilIface=>true
 | _=>false
theorem zi0:nlC (.v .nilIface)=True:=Eq.trans rfl rfl
theorem ziZ (t:TypeId) (x:PV):nlC (.ifc t x)=True:=Eq.trans rfl rfl
theorem ziY:nlB (.v .nilIface)=true:=Eq.trans rfl rfl
theorem ziX (t:TypeId) (x:PV):nlB (.ifc t x)=false:=Eq.trans rfl rfl
theorem zch (n:Bool) (x:PO) {Kv:PV->Prop}:PK.q P s (.nil n x) Kv=(nlC (s.ev x)/\Kv (.v (.bool (n != nlB (s.ev x))))):=by
 simp only [PK.q]
 cases s.ev x<;>simp [nlC,nlB]
 rename_i v
 cases v<;>simp [nlC,nlB]
theorem zfp (x:PO) {Kv:PV->Prop}:PK.q P s (.nc x) Kv=(Jy (s.ev x)/\Kv (s.ev x)):=by
 simp only [PK.q]
 cases s.ev x<;>simp [Jy]
theorem zfo (m:Bool) (x y:PO) {Kv:PV->Prop}:PK.q P s (.mm m x y) Kv=((qa (s.ev x)/\qa (s.ev y)/\iK (s.ev x)=iK (s.ev y))/\Kv (.v (.int (iK (s.ev x)) (if m then (if iV (s.ev y) > iV (s.ev x) then iV (s.ev y) else iV (s.ev x)) else (if iV (s.ev y)<iV (s.ev x) then iV (s.ev y) else iV (s.ev x)))))):=by
 simp only [PK.q,xh,and_assoc]
theorem zfe (x y:PO) (n sz:Nat) {Kv:PV->Prop}:PK.q P s (.aa x y n sz) Kv=((qa (s.ev y)/\0<=iV (s.ev y)/\iV (s.ev y)<n/\Jy (s.ev x))/\Kv (faV ((iV (s.ev y)).toNat * sz) (s.ev x))):=by
 simp only [PK.q,xh,and_assoc]
 cases s.ev x<;>simp [Jy,faV]
def agC:PV->Prop
 | .agg _=>True
 | _=>False
def YG:PV->List PV
 | .agg cs=>cs
 | _=>[]
theorem zhu (cs:List PV):agC (.agg cs)=True:=Eq.trans rfl rfl
theorem zhv (cs:List PV):YG (.agg cs)=cs:=Eq.trans rfl rfl
theorem zfl (x y:PO) (n:Nat) (ag:Bool) (sz:Nat) {Kv:PV->Prop}:PK.q P s (.ix x y n ag sz) Kv=((qa (s.ev y)/\0<=iV (s.ev y)/\iV (s.ev y)<n/\agC (s.ev x)/\Qo (YG (s.ev x)) ((iV (s.ev y)).toNat * sz) ag sz)/\Kv (ZW (YG (s.ev x)) ((iV (s.ev y)).toNat * sz) ag sz).strip):=by
 simp only [PK.q,xh,and_assoc]
 cases s.ev x<;>simp [agC,YG,Yl,and_assoc]
theorem zfj (x:PO) (o:Nat) (ag:Bool) (n:Nat) {Kv:PV->Prop}:PK.q P s (.fl x o ag n) Kv=((agC (s.ev x)/\Qo (YG (s.ev x)) o ag n)/\Kv (ZW (YG (s.ev x)) o ag n).strip):=by
 simp only [PK.q]
 cases s.ev x<;>simp [agC,YG,Yl]
def mfC (ps:List PV):Bool:=ps.all fun p=>p.isD || p.isB
theorem zdW:mfC []=true:=Eq.trans rfl rfl
theorem zbM (p:PV) (l:List PV):mfC (p::l)=((p.isD || p.isB) && mfC l):=Eq.trans rfl rfl
theorem zio (x:Value):PV.isB (.v x)=false:=Eq.trans rfl rfl
theorem zgh (es:List (List PV)) (o:Ow):PV.isB (.sl es o)=false:=Eq.trans rfl rfl
theorem zdI (cs:List PV):PV.isB (.agg cs)=false:=Eq.trans rfl rfl
theorem zge (i o:Nat):PV.isB (.bx i o)=true:=Eq.trans rfl rfl
theorem zgf (cs:List PV) (o:Nat):PV.isB (.cp cs o)=false:=Eq.trans rfl rfl
theorem zgg (f:Fn) (x y:List PV):PV.isB (.fn f x y)=false:=Eq.trans rfl rfl
theorem zdJ (t:TypeId) (x:PV):PV.isB (.ifc t x)=false:=Eq.trans rfl rfl
theorem zgk (i o:Nat):PV.isD (.bx i o)=false:=Eq.trans rfl rfl
theorem zgm (f:Fn) (x y:List PV):PV.isD (.fn f x y)=(x.all (fun p=>!p.isB) && y.all (fun p=>!p.isB)):=Eq.trans rfl rfl
theorem zcg (f:Fn) (fs cs:List PO) {Kv:PV->Prop}:PK.q P s (.mf f fs cs) Kv=((mfC (jW s fs) && mfC (jW s cs))=true/\Kv (.fn f (jW s fs) (jW s cs))):=by
 simp only [PK.q,mfC,jW,List.all_map]
 rfl
theorem zfn (t:TypeId) (x:PO) {Kv:PV->Prop}:PK.q P s (.mi t x) Kv=((s.ev x).isD=true/\Kv (.ifc t (s.ev x).sh)):=by
 simp only [PK.q]
 cases (s.ev x).isD<;>simp
def clP (P:Program) (p:PV) (xs:List PV) (K:PS->Prop) (d:Option Nat) (s:PS):Prop:=match p with
 | .fn (.func f) fs cs=>callQ P f (fs++xs++cs) K d s
 | _=>False
theorem zhS (f:FuncId) (fs cs xs:List PV):clP P (.fn (.func f) fs cs) xs K d s=callQ P f (fs++xs++cs) K d s:=Eq.trans rfl rfl
theorem zla (y:PO) (xs:List PO):zc P (⟨d,none,.cl y xs⟩::l) K s=clP P (s.ev y) (jW s xs) (zc P l K) d s:=by
 show PK.q P s (.cl y xs) (fun p=>zc P l K (s.put d p))=_
 simp only [PK.q]
 cases s.ev y<;>rfl
theorem zkK (y:PO) (xs:List PO):ze P (⟨d,none,.cl y xs⟩::l) K s=clP P (s.ev y) (jW s xs) (ze P l K) d s:=by
 show PK.q P s (.cl y xs) (fun p=>p.own=none/\ze P l K (s.put d p))=_
 simp only [PK.q,PV.strip_own,true_and]
 cases s.ev y<;>rfl
theorem ziD (n:Bool) (x y:PO) (m:Nat):zc P (⟨d,none,.eq2 n x y m⟩::l) K s=(eqC m (s.ev x) (s.ev y)/\zc P l K (s.put d (.v (.bool (n != eqB (s.ev x) (s.ev y)))))):=zce (P:=P) (s:=s) n x y m (Kv:=fun p=>zc P l K (s.put d p))
theorem zij (n:Bool) (x y:PO) (m:Nat):ze P (⟨d,none,.eq2 n x y m⟩::l) K s=(eqC m (s.ev x) (s.ev y)/\PV.own (.v (.bool (n != eqB (s.ev x) (s.ev y))))=none/\ze P l K (s.put d (.v (.bool (n != eqB (s.ev x) (s.ev y)))))):=zce (P:=P) (s:=s) n x y m (Kv:=fun p=>p.own=none/\ze P l K (s.put d p))
theorem ziH (n:Bool) (x:PO):zc P (⟨d,none,.nil n x⟩::l) K s=(nlC (s.ev x)/\zc P l K (s.put d (.v (.bool (n != nlB (s.ev x)))))):=zch (P:=P) (s:=s) n x (Kv:=fun p=>zc P l K (s.put d p))
theorem zil (n:Bool) (x:PO):ze P (⟨d,none,.nil n x⟩::l) K s=(nlC (s.ev x)/\PV.own (.v (.bool (n != nlB (s.ev x))))=none/\ze P l K (s.put d (.v (.bool (n != nlB (s.ev x)))))):=zch (P:=P) (s:=s) n x (Kv:=fun p=>p.own=none/\ze P l K (s.put d p))
theorem zlk (x:PO):zc P (⟨d,none,.nc x⟩::l) K s=(Jy (s.ev x)/\zc P l K (s.put d (s.ev x))):=zfp (P:=P) (s:=s) x (Kv:=fun p=>zc P l K (s.put d p))
theorem zkV (x:PO):ze P (⟨d,none,.nc x⟩::l) K s=(Jy (s.ev x)/\PV.own (s.ev x)=none/\ze P l K (s.put d (s.ev x))):=zfp (P:=P) (s:=s) x (Kv:=fun p=>p.own=none/\ze P l K (s.put d p))
theorem zlj (m:Bool) (x y:PO):zc P (⟨d,none,.mm m x y⟩::l) K s=((qa (s.ev x)/\qa (s.ev y)/\iK (s.ev x)=iK (s.ev y))/\zc P l K (s.put d (.v (.int (iK (s.ev x)) (if m then (if iV (s.ev y) > iV (s.ev x) then iV (s.ev y) else iV (s.ev x)) else (if iV (s.ev y)<iV (s.ev x) then iV (s.ev y) else iV (s.ev x))))))):=zfo (P:=P) (s:=s) m x y (Kv:=fun p=>zc P l K (s.put d p))
theorem zkU (m:Bool) (x y:PO):ze P (⟨d,none,.mm m x y⟩::l) K s=((qa (s.ev x)/\qa (s.ev y)/\iK (s.ev x)=iK (s.ev y))/\PV.own (.v (.int (iK (s.ev x)) (if m then (if iV (s.ev y) > iV (s.ev x) then iV (s.ev y) else iV (s.ev x)) else (if iV (s.ev y)<iV (s.ev x) then iV (s.ev y) else iV (s.ev x)))))=none/\ze P l K (s.put d (.v (.int (iK (s.ev x)) (if m then (if iV (s.ev y) > iV (s.ev x) then iV (s.ev y) else iV (s.ev x)) else (if iV (s.ev y)<iV (s.ev x) then iV (s.ev y) else iV (s.ev x))))))):=zfo (P:=P) (s:=s) m x y (Kv:=fun p=>p.own=none/\ze P l K (s.put d p))
theorem zk3 (x y:PO) (n sz:Nat):zc P (⟨d,none,.aa x y n sz⟩::l) K s=((qa (s.ev y)/\0<=iV (s.ev y)/\iV (s.ev y)<n/\Jy (s.ev x))/\zc P l K (s.put d (faV ((iV (s.ev y)).toNat * sz) (s.ev x)))):=zfe (P:=P) (s:=s) x y n sz (Kv:=fun p=>zc P l K (s.put d p))
theorem zkF (x y:PO) (n sz:Nat):ze P (⟨d,none,.aa x y n sz⟩::l) K s=((qa (s.ev y)/\0<=iV (s.ev y)/\iV (s.ev y)<n/\Jy (s.ev x))/\PV.own (faV ((iV (s.ev y)).toNat * sz) (s.ev x))=none/\ze P l K (s.put d (faV ((iV (s.ev y)).toNat * sz) (s.ev x)))):=zfe (P:=P) (s:=s) x y n sz (Kv:=fun p=>p.own=none/\ze P l K (s.put d p))
theorem zlf (x y:PO) (n:Nat) (ag:Bool) (sz:Nat):zc P (⟨d,none,.ix x y n ag sz⟩::l) K s=((qa (s.ev y)/\0<=iV (s.ev y)/\iV (s.ev y)<n/\agC (s.ev x)/\Qo (YG (s.ev x)) ((iV (s.ev y)).toNat * sz) ag sz)/\zc P l K (s.put d ((ZW (YG (s.ev x)) ((iV (s.ev y)).toNat * sz) ag sz).strip))):=zfl (P:=P) (s:=s) x y n ag sz (Kv:=fun p=>zc P l K (s.put d p))
theorem zkP (x y:PO) (n:Nat) (ag:Bool) (sz:Nat):ze P (⟨d,none,.ix x y n ag sz⟩::l) K s=((qa (s.ev y)/\0<=iV (s.ev y)/\iV (s.ev y)<n/\agC (s.ev x)/\Qo (YG (s.ev x)) ((iV (s.ev y)).toNat * sz) ag sz)/\PV.own ((ZW (YG (s.ev x)) ((iV (s.ev y)).toNat * sz) ag sz).strip)=none/\ze P l K (s.put d ((ZW (YG (s.ev x)) ((iV (s.ev y)).toNat * sz) ag sz).strip))):=zfl (P:=P) (s:=s) x y n ag sz (Kv:=fun p=>p.own=none/\ze P l K (s.put d p))
theorem zld (x:PO) (o:Nat) (ag:Bool) (n:Nat):zc P (⟨d,none,.fl x o ag n⟩::l) K s=((agC (s.ev x)/\Qo (YG (s.ev x)) o ag n)/\zc P l K (s.put d ((ZW (YG (s.ev x)) o ag n).strip))):=zfj (P:=P) (s:=s) x o ag n (Kv:=fun p=>zc P l K (s.put d p))
theorem zkN (x:PO) (o:Nat) (ag:Bool) (n:Nat):ze P (⟨d,none,.fl x o ag n⟩::l) K s=((agC (s.ev x)/\Qo (YG (s.ev x)) o ag n)/\PV.own ((ZW (YG (s.ev x)) o ag n).strip)=none/\ze P l K (s.put d ((ZW (YG (s.ev x)) o ag n).strip))):=zfj (P:=P) (s:=s) x o ag n (Kv:=fun p=>p.own=none/\ze P l K (s.put d p))
def mfB (s:PS) (l:List PO):Bool:=l.any fun x=>(s.ev x).isB
theorem zdV:mfB s []=false:=rfl
theorem zbL (x:PO) (l:List PO):mfB s (x::l)=((s.ev x).isB || mfB s l):=rfl
theorem zie:PS.fz ⟨t,b⟩=⟨t.map fun y=>(y.1,y.2.fz b),[]⟩:=rfl
theorem zkC (x:Value):PV.fz b (.v x)=.v x:=rfl
theorem zfW (cs:List PV):PV.fz b (.agg cs)=.agg cs:=rfl
theorem zfZ (cs:List PV):PV.fz b (.tup cs)=.tup cs:=rfl
theorem zif (es:List (List PV)) (o:Ow):PV.fz b (.sl es o)=.sl es o:=rfl
theorem zib (i o:Nat):PV.fz b (.bx i o)=.cp ((b[i]?.getD []).map PV.sh) o:=rfl
theorem zic (cs:List PV) (o:Nat):PV.fz b (.cp cs o)=.cp cs o:=rfl
theorem zfX (ty:TypeId) (x:PV):PV.fz b (.ifc ty x)=.ifc ty x:=rfl
theorem zf0:PV.fz b .und=.und:=rfl
theorem zid (f:Fn) (fs cs:List PV):PV.fz b (.fn f fs cs)=.fn f (fs.map (PV.fz1 b)) (cs.map (PV.fz1 b)):=rfl
theorem zfU (i o:Nat):PV.fz1 b (.bx i o)=.cp ((b[i]?.getD []).map PV.sh) o:=rfl
theorem zia (x:Value):PV.fz1 b (.v x)=.v x:=rfl
theorem zfV (cs:List PV) (o:Nat):PV.fz1 b (.cp cs o)=.cp cs o:=rfl
theorem zlh (f:Fn) (fs cs:List PO):zc P (⟨d,none,.mf f fs cs⟩::l) K s=if (mfB s fs || mfB s cs)=true then (s.b.all zX=true/\(mfC (jW s.fz fs) && mfC (jW s.fz cs))=true/\zc P l K (s.fz.put d (.fn f (jW s.fz fs) (jW s.fz cs)))) else ((mfC (jW s fs) && mfC (jW s cs))=true/\zc P l K (s.put d (.fn f (jW s fs) (jW s cs)))):=by
 show PK.e P (.mf f fs cs) d s (zc P l K)=_
 simp only [PK.e,mfB]
 congr 1
 ·rw [zcg (P:=P) (s:=s.fz) f fs cs (Kv:=fun p=>zc P l K (s.fz.put d p))]
 ·exact zcg (P:=P) (s:=s) f fs cs (Kv:=fun p=>zc P l K (s.put d p))
theorem zkS (f:Fn) (fs cs:List PO):ze P (⟨d,none,.mf f fs cs⟩::l) K s=((mfC (jW s fs) && mfC (jW s cs))=true/\PV.own (.fn f (jW s fs) (jW s cs))=none/\ze P l K (s.put d (.fn f (jW s fs) (jW s cs)))):=zcg (P:=P) (s:=s) f fs cs (Kv:=fun p=>p.own=none/\ze P l K (s.put d p))
theorem zli (t:TypeId) (x:PO):zc P (⟨d,none,.mi t x⟩::l) K s=((s.ev x).isD=true/\zc P l K (s.put d (.ifc t (s.ev x).sh))):=zfn (P:=P) (s:=s) t x (Kv:=fun p=>zc P l K (s.put d p))
theorem zkT (t:TypeId) (x:PO):ze P (⟨d,none,.mi t x⟩::l) K s=((s.ev x).isD=true/\PV.own (.ifc t (s.ev x).sh)=none/\ze P l K (s.put d (.ifc t (s.ev x).sh))):=zfn (P:=P) (s:=s) t x (Kv:=fun p=>p.own=none/\ze P l K (s.put d p))
theorem zlm (x:PO) (lo hi:Option PO) (n:Nat):zc P (⟨d,none,.sc x lo hi n⟩::l) K s=(yg (s.ev x)/\bdC s hi/\bdC s lo/\Jk s 0 lo<=Jk s (eV (s.ev x)).length hi/\Jk s (eV (s.ev x)).length hi<=(eV (s.ev x)).length/\(∀ e ∈ eV (s.ev x),e.length=n) /\
 zc P l K (s.put d (.sl (((eV (s.ev x)).take (Jk s (eV (s.ev x)).length hi)).drop (Jk s 0 lo)) .sh))):=by
 show PK.q P s (.sc x lo hi n) (fun p=>zc P l K (s.put d p.strip))=_
 have:∀ es lo p,(PV.sl es (Yt lo p)).strip=.sl es .sh:=fun es lo p=>by unfold Yt;split<;>rfl
 simp only [PK.q,vK,J0,this]
theorem zkX (x:PO) (lo hi:Option PO) (n:Nat):ze P (⟨d,none,.sc x lo hi n⟩::l) K s=(yg (s.ev x)/\bdC s hi/\bdC s lo/\Jk s 0 lo<=Jk s (eV (s.ev x)).length hi/\Jk s (eV (s.ev x)).length hi<=(eV (s.ev x)).length/\(∀ e ∈ eV (s.ev x),e.length=n) /\
 ze P l K (s.put d (.sl (((eV (s.ev x)).take (Jk s (eV (s.ev x)).length hi)).drop (Jk s 0 lo)) (Yt lo (s.ev x))))):=by
 show PK.q P s (.sc x lo hi n) (fun p=>p.own=none/\ze P l K (s.put d p))=_
 have:∀ es lo p,(PV.sl es (Yt lo p)).own=none:=fun es lo p=>by unfold Yt;split<;>rfl
 simp only [PK.q,vK,J0,this,true_and]
theorem zhK:bdC s none=True:=Eq.trans rfl rfl
theorem zhL (y:PO):bdC s (some y)=(qa (s.ev y)/\0<=iV (s.ev y)):=Eq.trans rfl rfl
theorem zhM (n:Nat):Jk s n none=n:=Eq.trans rfl rfl
theorem zhN (n:Nat) (y:PO):Jk s n (some y)=(iV (s.ev y)).toNat:=Eq.trans rfl rfl
def zcK (p:PV) (i:Nat):Prop:=match p with
 | .tup cs=>cs[i]?.isSome=true
 | _=>False
def tpV (p:PV) (i:Nat):PV:=match p with
 | .tup cs=>(cs[i]?.getD .und).strip
 | _=>.und
theorem zfh (x:PO) (i:Nat) {Kv:PV->Prop}:PK.q P s (.ex x i) Kv=(zcK (s.ev x) i/\Kv (tpV (s.ev x) i)):=by
 simp only [PK.q]
 cases s.ev x<;>simp only [zcK,tpV,false_and]
 rename_i cs
 cases cs[i]?<;>simp
theorem ziE (x:PO) (i:Nat):zc P (⟨d,none,.ex x i⟩::l) K s=(zcK (s.ev x) i/\zc P l K (s.put d (tpV (s.ev x) i))):=zfh (P:=P) (s:=s) x i (Kv:=fun p=>zc P l K (s.put d p))
theorem zik (x:PO) (i:Nat):ze P (⟨d,none,.ex x i⟩::l) K s=(zcK (s.ev x) i/\(tpV (s.ev x) i).own=none/\ze P l K (s.put d (tpV (s.ev x) i))):=zfh (P:=P) (s:=s) x i (Kv:=fun p=>p.own=none/\ze P l K (s.put d p))
theorem zhf (cs:List PV) (i:Nat):zcK (.tup cs) i=(cs[i]?.isSome=true):=Eq.trans rfl rfl
theorem zkc (cs:List PV) (i:Nat):tpV (.tup cs) i=(cs[i]?.getD .und).strip:=Eq.trans rfl rfl
theorem zk4 (zs:List PV):zc P (⟨d,none,.al zs⟩::l) K s=zc P l K (PS.put ⟨s.t,s.b++[zs]⟩ d (.bx s.b.length 0)):=Eq.trans rfl rfl
theorem zk7 (x:PO):zc P (⟨d,none,.bo x⟩::l) K s=(qq (s.ev x)/\zc P l K (PS.put ⟨s.t,s.b++[(qh (s.ev x)).map PV.sh]⟩ d (.bx s.b.length 0))):=xG
def stC (bs:List (List PV)) (p q:PV) (n:Nat):Prop:=match p with
 | .bx i o=>bs[i]?.isSome=true/\qq q/\(qh q).length=n/\o+n<=(bs[i]?.getD []).length
 | _=>False
def stB (bs:List (List PV)) (y:PO) (p q:PV):List (List PV):=match p with
 | .bx i o=>bs.set i (YE (bs[i]?.getD []) (yo y q (qh q)) o)
 | _=>bs
theorem zj8 (bs:List (List PV)) (i o:Nat) (q:PV) (n:Nat):stC bs (.bx i o) q n=(bs[i]?.isSome=true/\qq q/\(qh q).length=n/\o+n<=(bs[i]?.getD []).length):=Eq.trans rfl rfl
theorem zj7 (bs:List (List PV)) (y:PO) (i o:Nat) (q:PV):stB bs y (.bx i o) q=bs.set i (YE (bs[i]?.getD []) (yo y q (qh q)) o):=Eq.trans rfl rfl
theorem zln (x y:PO) (n:Nat):zc P (⟨d,none,.st x y n⟩::l) K s=(stC s.b (s.ev x) (s.ev y) n/\zc P l K (PS.put ⟨s.t,stB s.b y (s.ev x) (s.ev y)⟩ d (.v undef))):=by
 show PK.e P (.st x y n) d s (zc P l K)=_
 simp only [PK.e]
 cases s.ev x<;>simp only [stC,stB,false_and]
 rename_i i o
 cases s.b[i]?<;>simp [xG,and_assoc]
theorem zk9 (f:FuncId) (xs:List PO):zc P (⟨d,none,.ca f xs⟩::l) K s=match xs with
 | .t i::xs'=>caD P f (s.get i) (jW s xs') (zc P l K) d s
 | xs=>callP P f (jW s xs) (zc P l K) d s:=by
 show PK.e P (.ca f xs) d s (zc P l K)=_
 simp only [PK.e]
 split
 ·rename_i i xs'
  have e:s.ev (.t i)=s.get i:=rfl
  simp only [List.map_cons,e,caD]
  generalize s.get i=p
  cases p with
  | sl es o=>cases o<;>rfl
  | _=>rfl
 ·rename_i h
  cases xs with
  | nil=>rfl
  | cons x xs=>cases x<;>first | rfl | exact absurd rfl (h _ _)
theorem zhP (f:FuncId) (es:List (List PV)) (n sz:Nat) (xs:List PV):caD P f (.sl es (.r n sz)) xs K d s=callO P f es n sz xs K d s:=Eq.trans rfl rfl
theorem zhQ (f:FuncId) (x:Value) (xs:List PV):caD P f (.v x) xs K d s=callP P f (.v x::xs) K d s:=Eq.trans rfl rfl
theorem zc4 (f:FuncId) (cs:List PV) (xs:List PV):caD P f (.agg cs) xs K d s=callP P f (.agg cs::xs) K d s:=Eq.trans rfl rfl
theorem zfD (f:FuncId) (es:List (List PV)) (xs:List PV):caD P f (.sl es .sh) xs K d s=callP P f (.sl es .sh::xs) K d s:=Eq.trans rfl rfl
theorem zhR (f:FuncId) (es:List (List PV)) (xs:List PV):caD P f (.sl es .z) xs K d s=callP P f (.sl es .sh::xs) K d s:=Eq.trans rfl rfl
theorem zc5 (f:FuncId) (t:TypeId) (x:PV) (xs:List PV):caD P f (.ifc t x) xs K d s=callP P f (.ifc t x::xs) K d s:=Eq.trans rfl rfl
theorem zfC (f:FuncId) (g:Fn) (x y:List PV) (xs:List PV):caD P f (.fn g x y) xs K d s=callP P f (.fn g x y::xs) K d s:=Eq.trans rfl rfl
theorem zkJ (f:FuncId) (xs:List PO):ze P (⟨d,none,.ca f xs⟩::l) K s=callQ P f (jW s xs) (ze P l K) d s:=by
 show (∃ r,_/\_/\(PV.own _=none/\_))=_
 simp only [PV.strip_own,true_and]
 rfl
def apT (P:Program) (p q:PV) (x y:PO) (n m:Nat) (K:PS->Prop) (d:Option Nat) (s:PS):Prop:=match p with
 | .sl es (.r k sz')=>sz'=n/\isT x=true/\yg q/\(∀ e ∈ eV q,e.length=n)/\(es.length+(eV q).length) * m<=140737488355328/\K ((s.down k).put d (.sl (es++eV q) (.r k n)))
 | .sl es .z=>(match d with
   | some d=>yg q/\(∀ e ∈ es,e.length=n)/\(∀ e ∈ eV q,e.length=n)/\(es.length+(eV q).length) * m<=140737488355328/\K (s.put (some d) (.sl (es++eV q) (apO es (eV q) d n)))
   | none=>PK.q P s (.ap x y n m) fun p=>K (s.put d p.strip))
 | _=>False
theorem zk5 (x y:PO) (n m:Nat):zc P (⟨d,none,.ap x y n m⟩::l) K s=apT P (s.ev x) (s.ev y) x y n m (zc P l K) d s:=by
 show PK.e P (.ap x y n m) d s (zc P l K)=_
 simp only [PK.e,apT,vK]
 generalize s.ev x=p
 cases p with
 | sl es o=>cases o with
   | z=>cases d<;>rfl
   | r k sz=>rfl
   | _=>rfl
 | _=>rfl
theorem zhB (es:List (List PV)) (k sz':Nat) (q:PV) (x y:PO) (n m:Nat):apT P (.sl es (.r k sz')) q x y n m K d s=(sz'=n/\isT x=true/\yg q/\(∀ e ∈ eV q,e.length=n)/\(es.length+(eV q).length) * m<=140737488355328/\K ((s.down k).put d (.sl (es++eV q) (.r k n)))):=Eq.trans rfl rfl
theorem zhC (es:List (List PV)) (q:PV) (x y:PO) (d n m:Nat):apT P (.sl es .z) q x y n m K (some d) s=(yg q/\(∀ e ∈ es,e.length=n)/\(∀ e ∈ eV q,e.length=n)/\(es.length+(eV q).length) * m<=140737488355328/\K (s.put (some d) (.sl (es++eV q) (apO es (eV q) d n)))):=Eq.trans rfl rfl
theorem zhz (es':List (List PV)) (d n:Nat):apO [] es' d n=.r d n:=by cases es'<;>rfl
theorem zhy (es:List (List PV)) (e:List PV) (es':List (List PV)) (d n:Nat):apO es (e::es') d n=.r d n:=by cases es<;>rfl
theorem zhA (e:List PV) (es:List (List PV)) (d n:Nat):apO (e::es) [] d n=.sh:=rfl
def apH (p q:PV) (n m:Nat):Prop:=match p with
 | .sl es .z=>yg q/\(∀ e ∈ es,e.length=n)/\(∀ e ∈ eV q,e.length=n)/\(es.length+(eV q).length) * m<=140737488355328
 | _=>False
theorem zhx (es:List (List PV)) (q:PV) (n m:Nat):apH (.sl es .z) q n m=(yg q/\(∀ e ∈ es,e.length=n)/\(∀ e ∈ eV q,e.length=n)/\(es.length+(eV q).length) * m<=140737488355328):=Eq.trans rfl rfl
theorem zkG (x y:PO) (n m:Nat):ze P (⟨d,none,.ap x y n m⟩::l) K s=(apH (s.ev x) (s.ev y) n m/\ze P l K (s.put d (.sl (eV (s.ev x)++eV (s.ev y)) (.n n)))):=by
 show PK.q P s (.ap x y n m) (fun p=>p.own=none/\ze P l K (s.put d p))=_
 simp only [PK.q,apH,vK]
 cases h:s.ev x<;>try simp
 rename_i es o
 cases o<;>simp [eV,PV.own,and_assoc]
theorem zeD (x:Value):PV.strip (.v x)=.v x:=Eq.trans rfl rfl
theorem zad (cs:List PV):PV.strip (.agg cs)=.agg cs:=Eq.trans rfl rfl
theorem zaf (cs:List PV):PV.strip (.tup cs)=.tup cs:=Eq.trans rfl rfl
theorem zcF (es:List (List PV)):PV.strip (.sl es .sh)=.sl es .sh:=Eq.trans rfl rfl
theorem zeE (es:List (List PV)):PV.strip (.sl es .z)=.sl es .z:=Eq.trans rfl rfl
theorem zeC (es:List (List PV)) (n m:Nat):PV.strip (.sl es (.r n m))=.sl es .sh:=Eq.trans rfl rfl
theorem zeB (es:List (List PV)) (m:Nat):PV.strip (.sl es (.p m))=.sl es .sh:=Eq.trans rfl rfl
theorem zeA (es:List (List PV)) (m:Nat):PV.strip (.sl es (.n m))=.sl es .sh:=Eq.trans rfl rfl
theorem zcC (i o:Nat):PV.strip (.bx i o)=.bx i o:=Eq.trans rfl rfl
theorem zcD (cs:List PV) (o:Nat):PV.strip (.cp cs o)=.cp cs o:=Eq.trans rfl rfl
theorem zcE (f:Fn) (x y:List PV):PV.strip (.fn f x y)=.fn f x y:=Eq.trans rfl rfl
theorem zae (t:TypeId) (x:PV):PV.strip (.ifc t x)=.ifc t x:=Eq.trans rfl rfl
theorem zlL (x:Value):PV.sh (.v x)=.v x:=Eq.trans rfl rfl
theorem zg5 (cs:List PV):PV.sh (.agg cs)=.agg cs:=Eq.trans rfl rfl
theorem zg7 (cs:List PV):PV.sh (.tup cs)=.tup cs:=Eq.trans rfl rfl
theorem zj5 (es:List (List PV)) (o:Ow):PV.sh (.sl es o)=.sl es .sh:=Eq.trans rfl rfl
theorem zj2 (i o:Nat):PV.sh (.bx i o)=.bx i o:=Eq.trans rfl rfl
theorem zj3 (cs:List PV) (o:Nat):PV.sh (.cp cs o)=.cp cs o:=Eq.trans rfl rfl
theorem zj4 (f:Fn) (x y:List PV):PV.sh (.fn f x y)=.fn f x y:=Eq.trans rfl rfl
theorem zg6 (t:TypeId) (x:PV):PV.sh (.ifc t x)=.ifc t x:=Eq.trans rfl rfl
theorem zjf (x:Value):PV.own (.v x)=none:=Eq.trans rfl rfl
theorem zd6 (cs:List PV):PV.own (.agg cs)=none:=Eq.trans rfl rfl
theorem zd8 (cs:List PV):PV.own (.tup cs)=none:=Eq.trans rfl rfl
theorem zgL (es:List (List PV)):PV.own (.sl es .sh)=none:=Eq.trans rfl rfl
theorem zjg (es:List (List PV)):PV.own (.sl es .z)=none:=Eq.trans rfl rfl
theorem zjd (es:List (List PV)) (m:Nat):PV.own (.sl es (.p m))=none:=Eq.trans rfl rfl
theorem zjc (es:List (List PV)) (m:Nat):PV.own (.sl es (.n m))=none:=Eq.trans rfl rfl
theorem zgI (i o:Nat):PV.own (.bx i o)=none:=Eq.trans rfl rfl
theorem zgJ (cs:List PV) (o:Nat):PV.own (.cp cs o)=none:=Eq.trans rfl rfl
theorem zgK (f:Fn) (x y:List PV):PV.own (.fn f x y)=none:=Eq.trans rfl rfl
theorem zd7 (t:TypeId) (x:PV):PV.own (.ifc t x)=none:=Eq.trans rfl rfl
theorem zfO (n:Nat) (x:Value):PV.down n (.v x)=.v x:=Eq.trans rfl rfl
theorem za7 (n:Nat) (cs:List PV):PV.down n (.agg cs)=.agg cs:=Eq.trans rfl rfl
theorem za9 (n:Nat) (cs:List PV):PV.down n (.tup cs)=.tup cs:=Eq.trans rfl rfl
theorem zdr (n:Nat) (es:List (List PV)):PV.down n (.sl es .sh)=.sl es .sh:=Eq.trans rfl rfl
theorem zfP (n:Nat) (es:List (List PV)):PV.down n (.sl es .z)=.sl es .z:=Eq.trans rfl rfl
theorem zfM (n m:Nat) (es:List (List PV)):PV.down n (.sl es (.p m))=.sl es (.p m):=Eq.trans rfl rfl
theorem zfL (n m:Nat) (es:List (List PV)):PV.down n (.sl es (.n m))=.sl es (.n m):=Eq.trans rfl rfl
theorem zfN (n m k:Nat) (es:List (List PV)):PV.down n (.sl es (.r m k))=if m=n then .sl es .sh else .sl es (.r m k):=Eq.trans rfl rfl
theorem zdn (n i o:Nat):PV.down n (.bx i o)=.bx i o:=Eq.trans rfl rfl
theorem zdo (n:Nat) (cs:List PV) (o:Nat):PV.down n (.cp cs o)=.cp cs o:=Eq.trans rfl rfl
theorem zdp (n:Nat) (f:Fn) (x y:List PV):PV.down n (.fn f x y)=.fn f x y:=Eq.trans rfl rfl
theorem za8 (n:Nat) (t:TypeId) (x:PV):PV.down n (.ifc t x)=.ifc t x:=Eq.trans rfl rfl
theorem zba (n:Nat):PV.down n .und=.und:=Eq.trans rfl rfl
theorem zaU:PS.clean ⟨t,b⟩=⟨t.map fun y=>(y.1,y.2.clean),b⟩:=Eq.trans rfl rfl
theorem zde (x:Value):PV.clean (.v x)=.v x:=Eq.trans rfl rfl
theorem zjw (j:Nat) (x:Value):PV.pre j (.v x)=.v x:=Eq.trans rfl rfl
theorem Km (cs:List PV):PV.clean (.agg cs)=.agg cs:=Eq.trans rfl rfl
theorem zeh (j:Nat) (cs:List PV):PV.pre j (.agg cs)=.agg cs:=Eq.trans rfl rfl
theorem Kp (cs:List PV):PV.clean (.tup cs)=.tup cs:=Eq.trans rfl rfl
theorem zek (j:Nat) (cs:List PV):PV.pre j (.tup cs)=.tup cs:=Eq.trans rfl rfl
theorem zaV (es:List (List PV)):PV.clean (.sl es .sh)=.sl es .sh:=Eq.trans rfl rfl
theorem zgV (j:Nat) (es:List (List PV)):PV.pre j (.sl es .sh)=.sl es .sh:=Eq.trans rfl rfl
theorem zdf (es:List (List PV)):PV.clean (.sl es .z)=.sl es .z:=Eq.trans rfl rfl
theorem zjx (j:Nat) (es:List (List PV)):PV.pre j (.sl es .z)=.sl es .z:=Eq.trans rfl rfl
theorem zaR (i o:Nat):PV.clean (.bx i o)=.bx i o:=Eq.trans rfl rfl
theorem zgS (j:Nat) (i o:Nat):PV.pre j (.bx i o)=.bx i o:=Eq.trans rfl rfl
theorem zaS (cs:List PV) (o:Nat):PV.clean (.cp cs o)=.cp cs o:=Eq.trans rfl rfl
theorem zgT (j:Nat) (cs:List PV) (o:Nat):PV.pre j (.cp cs o)=.cp cs o:=Eq.trans rfl rfl
theorem zaT (f:Fn) (x y:List PV):PV.clean (.fn f x y)=.fn f x y:=Eq.trans rfl rfl
theorem zgU (j:Nat) (f:Fn) (x y:List PV):PV.pre j (.fn f x y)=.fn f x y:=Eq.trans rfl rfl
theorem Ko (t:TypeId) (x:PV):PV.clean (.ifc t x)=.ifc t x:=Eq.trans rfl rfl
theorem zei (j:Nat) (t:TypeId) (x:PV):PV.pre j (.ifc t x)=.ifc t x:=Eq.trans rfl rfl
theorem Kq  : PV.clean (.und)=.und:=Eq.trans rfl rfl
theorem zel (j:Nat)  : PV.pre j (.und)=.und:=Eq.trans rfl rfl
theorem zdd (es:List (List PV)) (n m:Nat):PV.clean (.sl es (.r n m))=.sl es (.r n m):=Eq.trans rfl rfl
theorem zdb (es:List (List PV)) (m:Nat):PV.clean (.sl es (.n m))=.sl es .sh:=Eq.trans rfl rfl
theorem zdc (es:List (List PV)) (m:Nat):PV.clean (.sl es (.p m))=.sl es .sh:=Eq.trans rfl rfl
theorem zjv (j:Nat) (es:List (List PV)) (n m:Nat):PV.pre j (.sl es (.r n m))=.sl es (.p j):=Eq.trans rfl rfl
theorem zjt (j:Nat) (es:List (List PV)) (m:Nat):PV.pre j (.sl es (.n m))=.sl es .sh:=Eq.trans rfl rfl
theorem zju (j:Nat) (es:List (List PV)) (m:Nat):PV.pre j (.sl es (.p m))=.sl es .sh:=Eq.trans rfl rfl
theorem zcz (es:List (List PV)) (i:Nat):Yt none (.sl es (.p i))=.p i:=Eq.trans rfl rfl
theorem zcA (y:PO) (p:PV):Yt (some y) p=.sh:=Eq.trans rfl rfl
theorem zg4 (es:List (List PV)):Yt none (.sl es .sh)=.sh:=Eq.trans rfl rfl
theorem zj1 (es:List (List PV)):Yt none (.sl es .z)=.sh:=Eq.trans rfl rfl
theorem zj0 (es:List (List PV)) (n m:Nat):Yt none (.sl es (.r n m))=.sh:=Eq.trans rfl rfl
theorem zjZ (es:List (List PV)) (m:Nat):Yt none (.sl es (.n m))=.sh:=Eq.trans rfl rfl
theorem ziq (x:Value):PV.isD (.v x)=true:=Eq.trans rfl rfl
theorem zdK (cs:List PV):PV.isD (.agg cs)=true:=Eq.trans rfl rfl
theorem zdM (cs:List PV):PV.isD (.tup cs)=true:=Eq.trans rfl rfl
theorem zgn (es:List (List PV)) (o:Ow):PV.isD (.sl es o)=true:=Eq.trans rfl rfl
theorem zgl (cs:List PV) (o:Nat):PV.isD (.cp cs o)=true:=Eq.trans rfl rfl
theorem zdL (t:TypeId) (x:PV):PV.isD (.ifc t x)=true:=Eq.trans rfl rfl
theorem zax:zX []=true:=Eq.trans rfl rfl
theorem Kd (p:PV) (l:List PV):zX (p::l)=(p.isD && zX l):=Eq.trans rfl rfl
end
section
variable {nb:Nat}
theorem zeJ (p:PV):SubP nb p .und ↔ True:=⟨fun _=>trivial,fun _=>.und p⟩
theorem zka (x y:Value):SubP nb (.v x) (.v y) ↔ x=y:=⟨fun h=>by cases h<;>rfl,fun h=>by subst h;exact .eq _ rfl⟩
theorem zeF (x y:List PV):SubP nb (.agg x) (.agg y) ↔ x=y:=⟨fun h=>by cases h<;>rfl,fun h=>by subst h;exact .eq _ rfl⟩
theorem zeI (x y:List PV):SubP nb (.tup x) (.tup y) ↔ x=y:=⟨fun h=>by cases h<;>rfl,fun h=>by subst h;exact .eq _ rfl⟩
theorem zeH (t t':TypeId) (x y:PV):SubP nb (.ifc t x) (.ifc t' y) ↔ t=t'/\x=y:=⟨fun h=>by cases h<;>exact⟨rfl,rfl⟩,fun⟨h,h'⟩=>by subst h;subst h';exact .eq _ rfl⟩
theorem zha (x y:List PV) (i j:Nat):SubP nb (.cp x i) (.cp y j) ↔ x=y/\i=j:=⟨fun h=>by cases h<;>exact⟨rfl,rfl⟩,fun⟨h,h'⟩=>by subst h;subst h';exact .eq _ rfl⟩
theorem zg9 (i j o o':Nat):SubP nb (.bx i o) (.bx j o') ↔ (i=j/\o=o')/\i<nb:=⟨fun h=>by cases h<;>(rename_i h;exact⟨⟨rfl,rfl⟩,by simpa [KL] using h⟩),fun⟨⟨h,h'⟩,h2⟩=>by subst h;subst h';exact .eq _ (by simpa [KL] using h2)⟩
theorem zhb (f f':Fn) (x y x' y':List PV):SubP nb (.fn f x y) (.fn f' x' y') ↔ (f=f'/\x=x'/\y=y')/\(x.all (VD nb) && y.all (VD nb))=true:=
 ⟨fun h=>by cases h<;>(rename_i h;exact⟨⟨rfl,rfl,rfl⟩,h⟩),fun⟨⟨h,h',h3⟩,h2⟩=>by subst h;subst h';subst h3;exact .eq _ h2⟩
theorem zhc (x y:List (List PV)) (o:Ow):SubP nb (.sl x o) (.sl y .sh) ↔ x=y:=⟨fun h=>by cases h<;>rfl,fun h=>by subst h;exact .sh (.sl x o) rfl⟩
theorem zkb (x y:List (List PV)):SubP nb (.sl x .z) (.sl y .z) ↔ x=y:=⟨fun h=>by cases h<;>rfl,fun h=>by subst h;exact .eq _ rfl⟩
theorem zj9 (x y:List (List PV)) (n m n' m':Nat):SubP nb (.sl x (.r n m)) (.sl y (.r n' m')) ↔ x=y/\n=n'/\m=m':=⟨fun h=>by cases h<;>exact⟨rfl,rfl,rfl⟩,fun⟨h,h',h2⟩=>by subst h;subst h';subst h2;exact .eq _ rfl⟩
theorem zhd (x y:List (List PV)) (n m:Nat):SubP nb (.sl x .z) (.sl y (.r n m)) ↔ x=[]/\y=[]:=⟨fun h=>by cases h;exact⟨rfl,rfl⟩,fun⟨h,h'⟩=>by subst h;subst h';exact .nil _ _⟩
theorem zcH (t t':List (Nat × PV)) (b b':List (List PV)):QQ ⟨t,b⟩ ⟨t',b'⟩ ↔ SubT b'.length t t'/\SubB b'.length b b':=Iff.rfl
theorem zai (t:List (Nat × PV)):SubT nb t [] ↔ True:=Iff.rfl
theorem V6 (t r:List (Nat × PV)) (i:Nat) (q:PV):SubT nb t ((i,q)::r) ↔ SubP nb (yH t i) q/\SubT nb t r:=Iff.rfl
theorem zag (l:List (List PV)):SubB nb l [] ↔ True:=⟨fun _=>trivial,fun _=>.nil l⟩
def SubC (nb:Nat):List PV->List PV->Prop
 | [],[]=>True
 | p::l,q::r=>SubP nb p q/\SubC nb l r
 | _,_=>False
theorem SubC.get:∀ {l r:List PV},SubC nb l r->l.length=r.length/\∀(j:Nat) p q,l[j]? = some p->r[j]? = some q->SubP nb p q
 | [],[],_=>⟨rfl,fun j p q h=>by simp at h⟩
 | p::l,q::r,h=>by
   obtain⟨h1,h2⟩:=SubC.get h.2
   refine⟨by simp [h1],fun j p' q' hp hq=>?_⟩
   cases j with
   | zero=>simp at hp hq;subst hp;subst hq;exact h.1
   | succ j=>exact h2 j p' q' (by simpa using hp) (by simpa using hq)
 | [],_::_,h=>h.elim
 | _::_,[],h=>h.elim
theorem V5 (cs cs':List PV) (l l':List (List PV)) (h:SubC nb cs cs'/\SubB nb l l'):SubB nb (cs::l) (cs'::l'):=.cons _ _ _ _ h.1.get.1 h.1.get.2 h.2
theorem XJ:∀(l r:List PV),l.length=r.length->(∀(j:Nat) p q,l[j]? = some p->r[j]? = some q->SubP nb p q)->SubC nb l r
 | [],[],_,_=>trivial
 | p::l,q::r,h,hc=>⟨hc 0 p q rfl rfl,XJ l r (by simpa using h) fun j p q h1 h2=>hc (j+1) p q (by simpa using h1) (by simpa using h2)⟩
 | [],_::_,h,_=>by simp at h
 | _::_,[],h,_=>by simp at h
theorem Qg (cs cs':List PV) (l l':List (List PV)):SubB nb (cs::l) (cs'::l') ↔ SubC nb cs cs'/\SubB nb l l':=⟨fun h=>by cases h with | cons _ _ _ _ h hc hl=>exact⟨XJ _ _ h hc,hl⟩,V5 cs cs' l l'⟩
theorem zcG:SubC nb [] [] ↔ True:=Iff.rfl
theorem zah (p q:PV) (l r:List PV):SubC nb (p::l) (q::r) ↔ SubP nb p q/\SubC nb l r:=Iff.rfl
end
def Z6 (s:Iv):List PV:=[.v (.int .u64 s.lo),.v (.int .u64 s.hi)]
def ivp (s:Iv):PV:=.agg (Z6 s)
def xB (x:Nat):List PV:=[.v (.int .u64 x)]
def rg (l:List Iv):PV:=.sl (l.map Z6) .sh
def rgs (ls:List (List Iv)):PV:=.sl (ls.map fun l=>[rg l]) .sh
theorem zhl (n:Int):IntKind.u64.wrap n=n % 18446744073709551616:=by
 simp only [IntKind.wrap,IntKind.bits,IntKind.signed,Bool.false_and,Bool.false_eq_true,if_false]
 rfl
theorem qo (k:Nat):(k:Int)+1=((k+1:Nat):Int):=Eq.trans rfl rfl
theorem pLoop.mk {body:(PX->PS->Prop)->PS->Prop} {Q:PX->PS->Prop} {s:PS} {ι:Type} (J:ι->Prop) (S:ι->PS) (m:ι->Nat) (i0:ι) (h0:J i0) (hs:QQ s (S i0)) (hr:∀ i,J i->body (jN (fun s'=>∃ j,J j/\m j<m i/\QQ s' (S j)) Q) (S i)):pLoop body Q s:=
 ⟨ι,J,S,m,i0,h0,hs,hr⟩
theorem zg2 {n:Int} (h : -9223372036854775808<=n/\n<9223372036854775808):rng .i64 n=True:=by simp [rng,h]
theorem yX {α:Type} {f:α->List PV} {l:List α} {k:Nat} (h:k<l.length):(l.map f)[k]? = some (f l[k]):=by rw [List.getElem?_map,List.getElem?_eq_getElem h];rfl
theorem zbQ {k:Nat} (h:1<=k):(k:Int) - 1=((k - 1:Nat):Int):=by omega
theorem zdY {a b:Nat} (h:b<=a):(a:Int) - (b:Int)=((a - b:Nat):Int):=by omega
theorem zdX (a b:Nat):(a:Int)+(b:Int)=((a+b:Nat):Int):=by omega
theorem KP {n:Int} (h:0<=n/\n<18446744073709551616):n % 18446744073709551616=n:=Int.emod_eq_of_lt h.1 h.2
theorem zg8 {a:Int} (h:0<=a):zey .u64 a 1=a / 2:=by
 unfold zey
 rw [Int.fdiv_eq_ediv_of_nonneg _ (by decide)]
 rfl
theorem zbP (a:Nat):(a:Int) / 2=((a / 2:Nat):Int):=by omega
theorem Vp (s:PS):qA [] s=s:=rfl
theorem YX (i:PI) (h:List PI) (s:PS):qA (i::h) s=qA h (s.put i.d .und):=rfl
theorem zjz (es:List (List PV)) (o:Ow) (K:List (List PV)->Prop):ZG (.sl es o) K=K es:=rfl
theorem ziV {α β:Type} (f:α->β) (n:Nat) (l:List α):List.take n (l.map f)=(l.take n).map f:=List.map_take.symm
theorem ziT {α β:Type} (f:α->β) (n:Nat) (l:List α):List.drop n (l.map f)=(l.drop n).map f:=List.map_drop.symm
theorem pLoop.go {P:Program} {nt:Nat} {fr:Prop} {pc:PC} {Q:PX->PS->Prop} {t:List (Nat × PV)} {b:List (List PV)} {ι:Type} (J:ι->Prop) (T:ι->List (Nat × PV)) (Bx:ι->List (List PV)) (m:ι->Nat) (i0:ι) (W:List Nat) (h0:J i0)
 (hs:QQ ⟨t,b⟩ ⟨T i0++t.filter (fun y=>!W.contains y.1),Bx i0⟩) (hr:∀ i,J i->pW P nt fr pc (jN (fun s'=>∃ j,J j/\m j<m i/\QQ s' ⟨T j++t.filter (fun y=>!W.contains y.1),Bx j⟩) Q) ⟨T i++t.filter (fun y=>!W.contains y.1),Bx i⟩):pLoop (pW P nt fr pc) Q ⟨t,b⟩:=
 ⟨ι,J,fun i=>⟨T i++t.filter (fun y=>!W.contains y.1),Bx i⟩,m,i0,h0,hs,hr⟩
theorem Dat.v_inv {D:Nat->Nat->Prop} {w:World} {x y:Value} (h:Dat D w x (.v y)):x=y:=(Rel.dat (ρ:=fun _=>0) (nb:=0) h).v_inv
theorem vF {D:Nat->Nat->Prop} {w:World} {v:Value} {l:List Iv} (h:Dat D w v (rg l)) (hD:∀ b o,D b o->b<w.heap.size) (hb:∀ s ∈ l,s.lo<zk/\s.hi<zk):RdR 0 w.heap.size w v l:=by
 unfold rg at h
 generalize he:l.map Z6=es at h
 cases h with
 | sl a cap sz es o b off u hc hz hm ha hsz hd hx=>
   have hl:es.length=l.length:=by rw [<-he];simp
   refine⟨a,cap,by rw [hl],by omega,hm,fun hne=>?_⟩
   have hpos:0<l.length:=List.length_pos_iff.2 hne
   have g:∀ i (h:i<l.length),es[i]? = some (Z6 l[i]):=fun i h=>by rw [<-he];exact yX h
   obtain rfl:2=sz:=hsz 0 _ (g 0 hpos)
   have hes:es≠[]:=by intro e;subst e;simp at hl;omega
   have hdlt:b<w.heap.size:=hD _ _ (hd 0 (by omega)).1
   refine⟨b,off,ha hes,Nat.zero_le _,hdlt,fun i hi=>?_⟩
   have e0:=(hx i _ 0 _ (g i hi) rfl).v_inv
   have e1:=(hx i _ 1 _ (g i hi) rfl).v_inv
   have c0:=(hd (i * 2+0) (by omega)).2.1
   have c1:=(hd (i * 2+1) (by omega)).2.1
   rw [e0] at c0
   rw [e1] at c1
   exact⟨c0,c1,hb _ (List.getElem_mem _)⟩
theorem vL {D:Nat->Nat->Prop} {lo hi:Nat} {w:World} {v:Value} {l:List Iv} (h:RdR lo hi w v l) (hD:∀ b o,lo<=b->b<hi->D b o):Dat D w v (rg l):=by
 obtain⟨a,cap,rfl,h1,h2,h3⟩:=h
 unfold rg
 rw [show l.length=(l.map Z6).length by simp]
 by_cases hne:l=[]
 ·subst hne
  exact .sl a cap 2 [] .sh 0 0 (fun _=>undef) (by simp) (fun h=>by cases h) h2 (fun h=>absurd rfl h) (fun i e h=>by simp at h) (fun j h=>by simp at h) (fun i e j p h=>by simp at h)
 obtain⟨b,off,rfl,hb1,hb2,hc⟩:=h3 hne
 refine .sl _ cap 2 _ .sh b off (fun j=>(y6 l).getD j undef) (by simpa using h1) (fun h=>by cases h) h2 (fun _=>rfl) (fun i e h=>?_) (fun j hj=>?_) (fun i e j p he hp=>?_)
 ·simp only [List.getElem?_map,Option.map_eq_some_iff] at h
  obtain⟨s,_,rfl⟩:=h
  rfl
 ·simp only [List.length_map] at hj
  obtain⟨i,r,rfl,hr⟩:∃ i r,j=i * 2+r/\r<2:=⟨j / 2,j % 2,by omega,by omega⟩
  have hi:i<l.length:=by omega
  obtain⟨c0,c1,_,_⟩:=hc i hi
  obtain⟨f0,f1⟩:=x8 l i hi
  refine⟨hD _ _ hb1 hb2,?_⟩
  obtain rfl | rfl:r=0\/r=1:=by omega
  ·rw [List.getD_eq_getElem?_getD,Nat.add_zero,f0]
   exact⟨c0,by simp [Value.oneCell']⟩
  ·rw [List.getD_eq_getElem?_getD,f1]
   exact⟨c1,by simp [Value.oneCell']⟩
 ·have hi:i<l.length:=by have:=(List.getElem?_eq_some_iff.1 he).1;simpa using this
  rw [yX hi] at he
  cases he
  obtain⟨f0,f1⟩:=x8 l i hi
  match j,hp with
  | 0,hp=>cases hp;simp only [List.getD_eq_getElem?_getD,Nat.add_zero,f0];exact .v _
  | 1,hp=>cases hp;simp only [List.getD_eq_getElem?_getD,f1];exact .v _
  | j+2,hp=>simp [Z6] at hp
theorem Nrm.lt {l:List Iv} (h:Nrm l):∀ s ∈ l,s.lo<zk/\s.hi<zk:=fun s hs=>by
 have:=NF.lo_ge h s hs;omega
theorem Vg {f:FuncId} {ps:List PV} {r:PV} (hr:r.own=none) (hent:∀ args w,(callFunc f args).run Tryz.prog w=.ok (.enter f args) w)
 (h:∀(D:Nat->Nat->Prop) (w:World) (vs:Array Value),(∀ b o,D b o->b<w.heap.size)->vs.size=ps.length->(∀(i:Nat) p,ps[i]? = some p->Dat D w (vs.getD i undef) p) ->
   Calls Tryz.prog f vs w fun e w'=>∃ v,e=.returned v/\Below w.heap.size w w'/\Dat (fun b o=>D b o\/(w.heap.size<=b/\b<w'.heap.size)) w' v r):Cn Tryz.prog f ps r:=by
 refine⟨hent,fun D w vs _ hD hsz hd=>(h D w vs hD hsz hd).mono ?_⟩
 rintro e w' ⟨v,rfl,hb,hv⟩
 exact⟨v,_,rfl,hb,fun b o h=>.inl h,fun b o h=>h.imp id And.left,fun b o h=>h.elim (fun h=>Nat.lt_of_lt_of_le (hD b o h) hb.size) And.right,hv,zo hr⟩
theorem zc0 {vs:Array Value} (h:vs.size=2):vs=#[vs.getD 0 undef,vs.getD 1 undef]:=by
 obtain⟨l⟩:=vs
 match l,h with
 | [x,y],_=>rfl
theorem zfH {f:FuncId} {a b r:List Iv} (ha:Nrm a) (hb:Nrm b) (hent:∀ args w,(callFunc f args).run Tryz.prog w=.ok (.enter f args) w)
 (h:∀ va vb w,RdR 0 w.heap.size w va a->RdR 0 w.heap.size w vb b->Calls Tryz.prog f #[va,vb] w fun e w'=>∃ v,e=.returned v/\OwnR w.heap.size w' v r/\Below w.heap.size w w'):Cn Tryz.prog f [rg a,rg b] (rg r):=by
 refine Vg rfl hent fun D w vs hD hsz hd=>?_
 rw [zc0 hsz]
 refine(h _ _ w (vF (hd 0 _ rfl) hD ha.lt) (vF (hd 1 _ rfl) hD hb.lt)).mono ?_
 rintro e w' ⟨v,rfl,hv,hbl⟩
 exact⟨v,rfl,hbl,vL hv.rd fun b o h1 h2=>.inr ⟨h1,h2⟩⟩
theorem J8 (a b:List Iv) (ha:Nrm a) (hb:Nrm b) (hl:a.length+b.length<=1073741824):Cn Tryz.prog 67 [rg a,rg b] (rg (qF zr a b)):=
 zfH ha hb (enters_of Tryz.func67 (by kernel_rfl) rfl) fun va vb w ra rb=>XN a b va vb w ha hb ra rb hl
theorem zfd (a:List Iv) (s:Iv) (ha:Nrm a) (hs:s.lo<=s.hi) (hs':s.hi<zk) (hl:a.length<=1073741823):Cn Tryz.prog 136 [rg a,ivp s] (rg (qF zO [s] a)):=by
 refine Vg rfl (enters_of Tryz.func136 (by kernel_rfl) rfl) fun D w vs hD hsz hd=>?_
 rw [zc0 hsz]
 have h1:vs.getD 1 undef=.agg #[.int .u64 s.lo,.int .u64 s.hi]:=by
  have:=hd 1 _ rfl
  unfold ivp at this
  generalize vs.getD 1 undef=v1 at this ⊢
  generalize hc:Z6 s=cs at this
  cases this with
  | agg us cs hs _ h=>
    subst hc
    obtain⟨l⟩:=us
    match l,hs with
    | [x,y],_=>
      have e0:=(h 0 _ rfl).v_inv
      have e1:=(h 1 _ rfl).v_inv
      simp at e0 e1
      rw [e0,e1]
 rw [h1]
 refine(KQ a _ s w ha hs hs' (vF (hd 0 _ rfl) hD ha.lt) hl).mono ?_
 rintro e w' ⟨v,rfl,hv,hbl⟩
 exact⟨v,rfl,hbl,vL hv.rd fun b o h1 h2=>.inr ⟨h1,h2⟩⟩
attribute [go_sem] zcb zca zbq zkB zkz zkA zbI zdS zdq zjo zjm zjj zjp zjh zjk zjn zjl KU KT KV zb3
attribute [go_sem] zb0 zb2 zeK zeM zeL zaE zaF zaG zeb zec zed Vp YX zjz ziV ziT qD PV.v.injEq
attribute [go_sem] exists_eq' exists_eq ne_eq not_false_eq_true not_true_eq_false List.append_eq_nil_iff List.cons_ne_nil zee zef zb6 zer zjP zjQ
attribute [go_sem] zgY zgZ zev zcy zjW zjY zjX zjT zjV zjU PV.resD List.all_cons List.all_nil zb1 KG Vw zab zaa
attribute [go_sem] zje zgM zgN zgO zgP zgR zaC zaB zgj zkq zdN zkY zkZ zgp zku zfx zfy zjS zh5 zh6 zh7 zh8 zhH
attribute [go_sem] zhG zhJ zhI ziK ziJ ziN ziM ziR ziQ ziP ziO Vb zaK zaJ Vd zaL Kh Ki Vc
attribute [go_sem] Ve zaN zaM Kj Kk Vf zdx zbj zji zeY zeX zf4 zf1 zf3 zf2 zig zjs zjr zh2 zh0
attribute [go_sem] zdu zbg zdv zbh ziD zij ziH zil zlk zkV zlj zkU zk3 zkF zlf zkP zld zkN zlh zkS zli zkT zla zkK zhS zi0 ziZ ziY ziX zhu zhv
attribute [go_sem] zdW zbM zio zgh zdI zge zgf zgg zdJ zgk zgm zg2 yX zbQ zdY zdX KP Int.cast_ofNat_Int
attribute [go_sem] Int.natCast_eq_zero List.length_eq_zero_iff decide_true decide_false List.filter_cons List.filter_nil List.contains_cons List.contains_nil Bool.or_false
attribute [go_sem] Bool.false_or Bool.or_true Bool.true_or Bool.and_false Bool.false_and List.any_cons List.any_nil List.mem_map forall_exists_index and_imp
attribute [go_sem] forall_apply_eq_imp_iff₂ List.mem_append List.mem_cons List.not_mem_nil List.mem_singleton or_false or_imp forall_and forall_eq_or_imp bne_self_eq_false
attribute [go_sem] Bool.bne_false Bool.bne_true Bool.false_bne Bool.true_bne beq_self_eq_true zi6 zi7 zlO zlP zi2 zi3 VM VL ziC zii ziB
attribute [go_sem] zih ziI zim zlb zkL zlc zkM zle zkO zkQ zlg zkR zk6 zkH zk8 zkI ziG ziF zgu zgs zgt zf7 zf5 zf6 zll zkW zlm
attribute [go_sem] zkX zhK zhL zhM zhN ziE zik zhf zkc zk4 zk7 zj8 zj7 zln zk9 zhP zhQ zc4 zfD zhR zc5 zfC zkJ zk5 zhB
attribute [go_sem] zhC zhz zhy zhA zhx zkG vl xF x4 xy JF zdH YE yo isT zeD zad zaf zcF zeE zeC zeA
attribute [go_sem] zcC zcD zcE zae zlL zg5 zg7 zj5 zj2 zj3 zj4 zg6 zjf zd6 zd8 zgL zjg zjc zgI zgJ zgK
attribute [go_sem] zd7 zfO za7 za9 zdr zfP zfN zfL zdn zdo zdp za8 zba zaU zde Km Kp zaV
attribute [go_sem] zdf zaR zaS zaT Ko Kq zjw zeh zek zgV zjx zgS zgT zgU zei zel zdd zdb zdc
attribute [go_sem] zjv zjt zju zcz zcA zg4 zj1 zj0 zjZ zeB zjd zfM ziq zdK zdM zgn zgl zdL zax Kd zeJ
attribute [go_sem] zka zeF zeI zeH zha zg9 zhb zhc zkb zj9 zhd zcH zai V6 zag Qg zcG zah
attribute [go_sem] Value.int.injEq Value.bool.injEq Int.toNat_natCast Int.natCast_nonneg qo zhl Int.natCast_pos qL Value.oneCell' ivp rg Z6 xB rgs
attribute [go_sem] List.flatMap_nil List.length_cons List.length_nil List.map_cons List.map_nil List.nil_append List.cons_append List.append_nil List.getElem?_cons_zero
attribute [go_sem] List.getElem?_cons_succ List.getElem?_nil List.take_succ_cons List.take_zero List.drop_succ_cons List.drop_zero List.take_nil List.drop_nil
attribute [go_sem] List.set_cons_zero List.set_cons_succ List.length_map Option.map_some Option.some.injEq Option.isSome_some Option.getD_some decide_eq_true_eq
attribute [go_sem] Bool.and_eq_true Bool.or_eq_true true_and and_true false_and and_false forall_const true_implies false_implies implies_true Bool.true_eq_false
attribute [go_sem] Bool.false_eq_true Bool.not_true Bool.not_false Bool.and_true Bool.true_and Nat.zero_add Nat.add_zero Nat.le_refl Int.ofNat_le Int.ofNat_lt
attribute [go_sem] Int.ofNat_inj forall_eq
attribute [go_sem] zg8 zbP zdV zbL zie zkC zfW zfZ zif zib zic zfX zf0 zid zfU zia zfV
theorem xP {a:Prop} (h:a:=by first | omega | assumption | exact True.intro | (show zay _ _=true;exact rfl) | (simp only [List.length_map,List.length_append,List.length_cons,List.length_nil,List.length_take,List.length_drop];omega)):a:=h
theorem zf:(∀ {p:Prop} [Decidable p],(decide p=true)=p)/\(∀ {p:Prop} {x:Decidable p},decide p=false ↔ ¬p)/\(∀(a b:Bool),((a && b)=true)=(a=true/\b=true))/\(∀(a b:Bool),((a || b)=true)=(a=true\/b=true))/\(∀(b:Bool),((!b)=true)=(b=false))/\(∀(b:Bool),((!b)=false)=(b=true))/\(∀ {x y:Bool},(x && y)=false ↔ x=false\/y=false)/\(∀ {x y:Bool},(x || y)=false ↔ x=false/\y=false)/\(∀ {a b:Nat},¬a<b ↔ b<=a)/\(∀ {a b:Int},¬a<b ↔ b<=a)/\(∀ {a b:Nat},¬a<=b ↔ b<a)/\(∀ {a b:Int},¬a<=b ↔ b<a)/\(∀ {n m:Nat},(n:Int)<(m:Int) ↔ n<m)/\(∀ {m n:Nat},(m:Int)<=(n:Int) ↔ m<=n)/\(∀ {m n:Nat},(m:Int)=(n:Int) ↔ m=n)/\(∀(x:Bool),(x ^^ false)=x)/\(∀(x:Bool),(false ^^ x)=x)/\(∀(x:Bool),(true ^^ x)=!x)/\(∀(x:Bool),(x ^^ true)=!x)/\((!true)=false)/\((!false)=true):=
 ⟨@decide_eq_true_eq,@decide_eq_false_iff_not,@Bool.and_eq_true,@Bool.or_eq_true,@Bool.not_eq_true',@Bool.not_eq_false',@Bool.and_eq_false_iff,@Bool.or_eq_false_iff,@Nat.not_lt,@Int.not_lt,@Nat.not_le,@Int.not_le,@Int.ofNat_lt,@Int.ofNat_le,@Int.ofNat_inj,@Bool.xor_false,@Bool.false_xor,@Bool.true_xor,@Bool.xor_true,Bool.not_true,Bool.not_false⟩
theorem pw {G G':Prop} (k:G') (e:Hd G'->G:=by intro k_;(try simp (maxSteps:=2000000) (disch:=omega) only [go_sem,seval]);(repeat ((with_reducible refine And.intro ?_ ?_);focus exact xP));exact k_.h):G:=e ⟨k⟩
theorem pd {G:Prop} (e:Hd True->G:=by intro k_;(try simp (maxSteps:=2000000) (disch:=omega) only [go_sem,seval]);(repeat ((with_reducible refine And.intro ?_ ?_);focus exact xP))):G:=e ⟨trivial⟩
theorem callP.c {P:Program} {K:PS->Prop} {d:Option Nat} {s:PS} {G':Prop} {f:FuncId} {xs:List PV} {r:PV} (h:Cn P f xs r) (k:G') (hd:zX xs=true:=by exact rfl) (e:Hd G'->K (s.put d r):=by intro k_;(try simp (maxSteps:=2000000) (disch:=omega) only [go_sem,seval]);(repeat ((with_reducible refine And.intro ?_ ?_);focus exact xP));exact k_.h):callP P f xs K d s:=.mk h hd (e ⟨k⟩)
theorem callQ.c {P:Program} {K:PS->Prop} {d:Option Nat} {s:PS} {G':Prop} {f:FuncId} {xs:List PV} {r:PV} (h:Cn P f xs r) (k:G') (hd:zX xs=true:=by exact rfl) (e:Hd G'->K (s.put d r.strip):=by intro k_;(try simp (maxSteps:=2000000) (disch:=omega) only [go_sem,seval]);(repeat ((with_reducible refine And.intro ?_ ?_);focus exact xP));exact k_.h):callQ P f xs K d s:=.mk h hd (e ⟨k⟩)
theorem callO.c {P:Program} {K:PS->Prop} {d:Option Nat} {s:PS} {n sz:Nat} {G':Prop} {f:FuncId} {es:List (List PV)} {xs:List PV} {r:PV} (h:Cn P f (.sl es .sh::xs) r) (k:G') (hd:zX xs=true:=by exact rfl) (e:Hd G'->K (s.put d r):=by intro k_;(try simp (maxSteps:=2000000) (disch:=omega) only [go_sem,seval]);(repeat ((with_reducible refine And.intro ?_ ?_);focus exact xP));exact k_.h):callO P f es n sz xs K d s:=.rd h hd (e ⟨k⟩)
theorem callO.o {P:Program} {K:PS->Prop} {d:Option Nat} {s:PS} {n sz:Nat} {G':Prop} {f:FuncId} {es rs:List (List PV)} {xs:List PV} (h:OCn P f es sz xs rs) (k:G') (hd:zX xs=true:=by exact rfl) (e:Hd G'->K ((s.down n).put d (.sl rs (.r n sz))):=by intro k_;(try simp (maxSteps:=2000000) (disch:=omega) only [go_sem,seval]);(repeat ((with_reducible refine And.intro ?_ ?_);focus exact xP));exact k_.h):callO P f es n sz xs K d s:=.mk h hd (e ⟨k⟩)
theorem callP.d {P:Program} {K:PS->Prop} {d:Option Nat} {s:PS} {f:FuncId} {xs:List PV} {r:PV} (h:Cn P f xs r) (hd:zX xs=true:=by exact rfl) (e:Hd True->K (s.put d r):=by intro k_;(try simp (maxSteps:=2000000) (disch:=omega) only [go_sem,seval]);(repeat ((with_reducible refine And.intro ?_ ?_);focus exact xP))):callP P f xs K d s:=.mk h hd (e ⟨trivial⟩)
theorem callQ.d {P:Program} {K:PS->Prop} {d:Option Nat} {s:PS} {f:FuncId} {xs:List PV} {r:PV} (h:Cn P f xs r) (hd:zX xs=true:=by exact rfl) (e:Hd True->K (s.put d r.strip):=by intro k_;(try simp (maxSteps:=2000000) (disch:=omega) only [go_sem,seval]);(repeat ((with_reducible refine And.intro ?_ ?_);focus exact xP))):callQ P f xs K d s:=.mk h hd (e ⟨trivial⟩)
theorem callO.d {P:Program} {K:PS->Prop} {d:Option Nat} {s:PS} {n sz:Nat} {f:FuncId} {es:List (List PV)} {xs:List PV} {r:PV} (h:Cn P f (.sl es .sh::xs) r) (hd:zX xs=true:=by exact rfl) (e:Hd True->K (s.put d r):=by intro k_;(try simp (maxSteps:=2000000) (disch:=omega) only [go_sem,seval]);(repeat ((with_reducible refine And.intro ?_ ?_);focus exact xP))):callO P f es n sz xs K d s:=.rd h hd (e ⟨trivial⟩)
theorem callO.q {P:Program} {K:PS->Prop} {d:Option Nat} {s:PS} {n sz:Nat} {f:FuncId} {es rs:List (List PV)} {xs:List PV} (h:OCn P f es sz xs rs) (hd:zX xs=true:=by exact rfl) (e:Hd True->K ((s.down n).put d (.sl rs (.r n sz))):=by intro k_;(try simp (maxSteps:=2000000) (disch:=omega) only [go_sem,seval]);(repeat ((with_reducible refine And.intro ?_ ?_);focus exact xP))):callO P f es n sz xs K d s:=.mk h hd (e ⟨trivial⟩)
theorem callP.rd {P:Program} {K:PS->Prop} {d:Option Nat} {s:PS} {f:FuncId} {xs:List PV} {r:PV} (h:Cn P f xs r) (hd:zX xs=true) (hk:K (s.put d r)):callP P f xs K d s:=.mk h hd hk
theorem callQ.rd {P:Program} {K:PS->Prop} {d:Option Nat} {s:PS} {f:FuncId} {xs:List PV} {r:PV} (h:Cn P f xs r) (hd:zX xs=true) (hk:K (s.put d r.strip)):callQ P f xs K d s:=.mk h hd hk
theorem brP.i {s:PS} {c:Bool} {X Y:PS->Prop} (h1:c=true->X s) (h2:c=false->Y s):brP (.v (.bool c)) X Y s:=.mk h1 h2
theorem pkP.i {s:PS} {c:Bool} {X Y:PS->Prop} (h1:c=true->X s) (h2:c=false->Y s):pkP (.v (.bool c)) X Y s:=.mk h1 h2
theorem gdP.i {s:PS} {d:Option Nat} {c b:Bool} {i:Nat} {X Y:PS->Prop} (h1:c=true->(match b with | true=>X (s.put (some i) (.v (.bool true))) | false=>Y ((s.put (some i) (.v (.bool true))).put d (.v undef)))) (h2:c=false->(match b with | true=>Y ((s.put (some i) (.v (.bool false))).put d (.v undef)) | false=>X (s.put (some i) (.v (.bool false))))):gdP (.v (.bool c)) i b d X Y s:=by
 cases b
 ·exact .mkf h1 h2
 ·exact .mkt h1 h2
theorem zz {P:Program} {f:FuncId} {fn:Func} (hf:P.funcs[f]? = some fn) {ps:List PV} {r:PV} (n:Nat) {G':Prop} (k:G') (hok:KR P fn [] n=true:=by kernel_rfl) (hl:ps.length=n:=by exact rfl) (hps:∀ p ∈ ps,p.own=none:=by simp [go_sem,seval]) (e:Hd G'->pW P fn.ntmps True (KW P fn []) (Zz (zeu P fn) r) ⟨qL 0 ps,[]⟩:=by intro k_;(conv=>arg 4;cbv);(conv=>enter [5,1];cbv);exact k_.h):Cn P f ps r:=ze0 hf [] n hok hl hps (e ⟨k⟩)
end Go.Proofs.YtjimggclhlnfbaaGreat
namespace Go.Proofs.YtjimggclhlnfbaaGreat
open Go.ChangeShapes Go.WideShapes Go.ChangeAt Go.RowKit Go.Deep
def kH (w:World):Nat->Nat->Prop:=fun b _=>b<w.heap.size
def zft (D:Nat->Nat->Prop) (w:World):List Value->List PV->Prop
 | [],[]=>True
 | v::l,p::ps=>Dat D w v p/\zft D w l ps
 | _,_=>False
theorem YO {D:Nat->Nat->Prop} {w:World}:∀ {l:List Value} {ps:List PV},zft D w l ps->l.length=ps.length/\∀(i:Nat) p,ps[i]? = some p->Dat D w (l.getD i undef) p
 | [],[],_=>⟨rfl,fun i p h=>by simp at h⟩
 | v::l,p::ps,h=>by
   obtain⟨h1,h2⟩:=YO h.2
   refine⟨by simp [h1],fun i q hq=>?_⟩
   cases i with
   | zero=>cases hq;exact h.1
   | succ i=>simpa using h2 i q (by simpa using hq)
 | [],_::_,h=>h.elim
 | _::_,[],h=>h.elim
theorem zdh {f:FuncId} {ps:List PV} {l:List Value} {W:World} (h:Cn Tryz.prog f ps (.v (.bool true))) (hgl:GL (kH W) W) (hd:zft (kH W) W l ps):Calls Tryz.prog f l.toArray W fun e W'=>e=.returned (.bool true)/\Below W.heap.size W W':=by
 obtain⟨h1,h2⟩:=YO hd
 refine(h.2 (kH W) W l.toArray hgl (fun _ _ h=>h) (by simpa using h1) (fun i p hp=>by have:=h2 i p hp;simpa [List.getD_eq_getElem?_getD] using this)).mono ?_
 rintro e W' ⟨v,D',rfl,hb,_,_,_,hv,_⟩
 rw [hv.v_inv]
 exact⟨rfl,hb⟩
section
variable {H:Type} {enc:TypeId × Value->H} {w:World} {base:Nat} {spare:Nat->Bool} {held:Bool}
end
end Go.Proofs.YtjimggclhlnfbaaGreat
namespace Go.Proofs.YtjimggclhlnfbaaGreat
open Go.RowKit
theorem zf8 (s:Iv) (x:Nat):Cn Tryz.prog 76 [ivp s,.v (.int .u64 x)] (.v (.bool (decide (s.lo<=x) && decide (x<=s.hi)))):=by
 refine zz Tryz.func76 2 ?_
 refine pw ?_
 refine .i ?_ ?_<;>intro h<;>(try simp only [zf] at h)<;>first | refine pw ?_ | exact pd
 ·simp [h]
 ·simp;omega
theorem zbK {l:List Iv} {k x:Nat} (h:k<l.length):mem (l.drop k) x=((decide (l[k].lo<=x) && decide (x<=l[k].hi)) || mem (l.drop (k+1)) x):=by
 rw [List.drop_eq_getElem_cons h];rfl
theorem x9 (l:List Iv) (x:Nat) (hl:l.length<=1152921504606846976):Cn Tryz.prog 47 [rg l,.v (.int .u64 x)] (.v (.bool (mem l x))):=by
 refine zz Tryz.func47 2 ?_
 refine pw ?_
 refine pLoop.go (fun k=>k<=l.length/\mem l x=mem (l.drop k) x) (fun k=>[(5,.v (.int .i64 (k:Nat)))]) (fun _=>[]) (fun k=>l.length - k) 0 [5] ?_ ?_ ?_
 ·exact⟨Nat.zero_le _,rfl⟩
 ·exact pd
 ·rintro k ⟨hk,hm⟩
  refine pw ?_
  refine .i ?_ ?_<;>intro h<;>(try simp only [zf] at h)<;>first | refine pw ?_ | exact pd
  ·refine callP.mk (zf8 l[k] x) rfl ?_
   refine pw ?_
   have hd:=zbK (x:=x) h
   refine .i ?_ ?_<;>intro e<;>(try simp only [zf] at e)<;>first | refine pw ?_ | exact pd
   ·rw [hm,hd,<-Bool.decide_and];simp [e]
   ·refine⟨k+1,⟨h,?_⟩,by omega,rfl⟩
    rw [hm,hd,<-Bool.decide_and];simp [e];omega
  ·rw [hm,List.drop_of_length_le (by omega)];rfl
theorem zfa:Cn Tryz.prog 58 [] (.v (.int .u64 18446744073709551615)):=by
 refine zz Tryz.func58 0 ?_
 exact pd
theorem zct (s t:Iv) (h1:s.lo<zk) (h2:t.lo<zk):Cn Tryz.prog 112 [ivp s,ivp t] (.v (.int .i64 (zW s t:Nat))):=by
 refine zz Tryz.func112 2 ?_
 refine pw ?_
 have hM:=zw
 unfold zW
 refine .i ?_ ?_<;>intro h<;>(try simp only [zf] at h)<;>first | refine pw ?_ | exact pd
 ·refine .i ?_ ?_<;>intro h'<;>(try simp only [zf] at h')<;>first | refine pw ?_ | exact pd
  ·rw [if_pos h,if_pos (by omega)];rfl
  ·rw [if_pos h,if_neg (by omega)];rfl
 ·refine .i ?_ ?_<;>intro h'<;>(try simp only [zf] at h')<;>first | refine pw ?_ | exact pd
  ·refine .i ?_ ?_<;>intro h3<;>(try simp only [zf] at h3)<;>first | refine pw ?_ | exact pd
   ·rw [if_neg (by omega),if_pos h',if_pos (by omega)];rfl
   ·rw [if_neg (by omega),if_pos h',if_neg (by omega)];rfl
  ·rw [if_neg (by omega),if_neg (by omega)];rfl
theorem zhe (a b:Bool) (op:Nat) (ho:op<3):Cn Tryz.prog 104 [.v (.bool a),.v (.bool b),.v (.int .i64 op)] (.v (.bool (VK op a b))):=by
 refine zz Tryz.func104 3 ?_
 obtain rfl | rfl | rfl:op=0\/op=1\/op=2:=by omega
 all_goals (cases a<;>cases b<;>simp (maxSteps:=2000000) (disch:=omega) only [go_sem,seval]<;>rfl)
theorem JV (l:List Nat) (k:Nat) (hk:k<l.length) (hl:l.length<=1152921504606846976) (hs:∀ h:k+1<l.length,1<=l[k+1]/\l[k+1]<zk):Cn Tryz.prog 35 [.sl (l.map fun x=>[.v (.int .u64 (x:Nat))]) .sh,.v (.int .i64 k)] (ivp ⟨l[k],if h:k+1<l.length then l[k+1] - 1 else zk - 1⟩):=by
 have hM:=zw
 refine zz Tryz.func35 2 ?_
 refine pw ?_
 refine .i ?_ ?_<;>intro h<;>(try simp only [zf] at h)<;>first | refine pw ?_ | exact pd
 ·obtain⟨h1,h2⟩:=hs h
  rw [dif_pos h]
  exact pd
 ·refine callQ.mk zfa rfl ?_
  rw [dif_neg (by omega)]
  refine pw ?_
  rfl
theorem zb9 {l:List Iv} (h:0<l.length) (s:Iv):Qa l s=if l[l.length - 1].hi+1=s.lo then l.take (l.length - 1)++[⟨l[l.length - 1].lo,s.hi⟩] else l++[s]:=by
 unfold Qa
 rw [List.getLast?_eq_getElem?,List.getElem?_eq_getElem (by omega),List.dropLast_eq_take]
theorem zeo {l:List Iv} (h:l.length<=0) (s:Iv):Qa l s=l++[s]:=by
 have:l=[]:=List.eq_nil_of_length_eq_zero (by omega)
 subst this;rfl
theorem zjy (l:List Iv) (s:Iv) (hs:s.lo<zk) (hb:∀ t ∈ l,t.lo<zk/\t.hi<s.lo) (hl:l.length<1099511627776):OCn Tryz.prog 105 (l.map Z6) 2 [ivp s] ((Qa l s).map Z6):=by
 refine zgE Tryz.func105 [] 2 4 (by kernel_rfl) (by kernel_rfl) rfl (by simp [go_sem,seval]) ?_
 conv=>arg 4;cbv
 refine pw ?_
 refine .i ?_ ?_<;>intro h0<;>(try simp only [zf] at h0)<;>first | refine pw ?_ | exact pd
 ·refine callQ.mk (zct l[l.length - 1] s (hb _ (List.getElem_mem _)).1 hs) rfl ?_
  have h1:=(hb _ (List.getElem_mem (show l.length - 1<l.length by omega))).2
  refine pw ?_
  rw [zb9 h0]
  unfold zW
  rw [if_pos h1]
  refine .i ?_ ?_<;>intro h<;>(try simp only [zf] at h)<;>first | refine pw ?_ | exact pd
  ·rw [if_pos (by split at h<;>first | assumption | cases h)]
   simp [Z6]
  ·rw [if_neg (by split at h<;>first | assumption | exact absurd rfl h)]
   simp [Z6]
 ·rw [zeo h0]
  simp [Z6]
end Go.Proofs.YtjimggclhlnfbaaGreat
