import Derived.Attr
import Derived.Test.YtmpnbdhadjfbhaaGreatDoorB9
import Derived.Test.YtmpnbdhadjfbhaaGreatDoorB13
import Derived.Test.YtmpnbdhadjfbhaaGreatDoorB14
import Derived.Test.YtmpnbdhadjfbhaaGreatDoorB15
import Derived.Test.YtmpnbdhadjfbhaaGreatDoorB16
set_option linter.all false
set_option maxRecDepth 100000
namespace Go.Proofs.YtmpnbdhadjfbhaaGreatDoor
open Go.RowKit
open Go.Proofs.Tryz renaming prog->xT
section
open Go.ChangeShapes Go.WideShapes
def zcR{P:Program}{f:FuncId}{fn:Func}{s:ChangeSpec}{c:OpenClaim}
 (U:(c.wf (OpenSpec.ofChange s))=true)
 (V:(laidOutB P)=true)
 (X:(mapsRowed P)=true)
 (Y:(fn.params.all (P.readableRec ·))=true)
 (Z:(namedTie P c.named s.vars)=true)
 (h5:((c.stops == []))=true)
 (h6:((P.stops == []))=true)
 (h7:((c.knobs == []))=true)
 (h8:((P.stopKnobs == []))=true)
 (h9:((c.inPlace == P.inPlace f))=true)
 (j:((c.unfollowed == P.unfollowed f))=true)
 (o:((c.recurses == P.recurses f))=true)
 (u:((c.named == P.varsNamed f))=true)
 (w:((c.maps == (fn.params.toList++s.plain.varTypes P).any (P.mapsRec ·)))=true)
 (y:((c.ifaces == (fn.params.toList++s.plain.varTypes P).any (P.ifacesRec ·)))=true)
 (A:((c.mapsOut == P.mapsAmong fn.resultTypes.toList))=true)
 (B:((c.loops == (fn.params.toList++s.plain.varTypes P).any (P.loopsFrom ·)))=true)
 (C:((c.wideKeys == (fn.params.toList++s.plain.varTypes P++fn.resultTypes.toList).any (P.wideKeysFrom ·)))=true)
 (E:(s.vars.all (P.varReadable ·))=true)
 (F:(fn.resultTypes.all (λt=>P.readableRec t && decide (t<P.types.size)))=true)
 (G:((c.ifacesOut == fn.resultTypes.toList.any (P.ifacesRec ·)))=true)
 (H:((c.loopsOut == fn.resultTypes.toList.any (P.loopsFrom ·)))=true)
 (I:((c.plainKeys == P.plainKeys))=true)
 (J:(c.shortTexts.isNone)=true)
 (K:(P.stopsHeard)=true)
 (L:(P.mayEnter)=true)
 (M:((c.lifted == P.liftsFinal))=true)
 (N:((P.make == some c.make))=true)
 (O:((c.kinds == (if c.domain.isEmpty then [] else fn.params.toList.map λt=>match P.underlying t with|some (.int k)=>some k|_=>none)))=true)
 (Q:((c.pinned == c.pinnedBy))=true)
 (S:((c.veiled == (fn.params.toList++s.plain.varTypes P++fn.resultTypes.toList).any (P.veiledRec ·)))=true)
 (T:(c.veiledFits P fn.params.toList (fn.params.toList++s.plain.varTypes P++fn.resultTypes.toList))=true) :
 joinedFacts P f fn s c=true:=by
 unfold joinedFacts;simp only[V0];exact⟨⟨⟨⟨⟨⟨⟨⟨⟨⟨⟨⟨⟨⟨⟨⟨⟨⟨⟨⟨⟨⟨⟨⟨⟨⟨⟨⟨⟨⟨⟨U,V⟩,X⟩,Y⟩,Z⟩,h5⟩,h6⟩,h7⟩,h8⟩,h9⟩,j⟩,o⟩,u⟩,w⟩,y⟩,A⟩,B⟩,C⟩,E⟩,F⟩,G⟩,H⟩,I⟩,J⟩,K⟩,L⟩,M⟩,N⟩,O⟩,Q⟩,S⟩,T⟩
end
section
section
variable {P:Program}{nt:Nat}{fr:Prop}{d:Option Nat}{t:List (Nat×PV)}{b:List (List PV)}{s:PS}{K:PS->Prop}{Q:PX->PS->Prop}{l:List PI}
def zdN(i:Nat)(p:PV):PS.put ⟨t,b⟩ (some i) p=⟨(i,p)::t,b⟩:=X3 rfl rfl
def zdM(p:PV):PS.put ⟨t,b⟩ none p=⟨t,b⟩:=X3 rfl rfl
def zcX(i:Nat):PS.get ⟨t,b⟩ i=yr t i:=X3 rfl rfl
def zmt(i:Nat):PS.ev ⟨t,b⟩ (.t i)=yr t i:=X3 rfl rfl
def zmr(p:PV):PS.ev s (.c p)=p:=X3 rfl rfl
def zms(f:FuncId):PS.ev s (.f f)=.fn (.func f) [] []:=X3 rfl rfl
def zdh(j i:Nat)(p:PV)(r:List (Nat×PV)):yr ((j,p)::r) i=if j=i then p else yr r i:=X3 rfl rfl
def zfG(i:Nat):yr [] i=.und:=X3 rfl rfl
def ze9(n:Nat):PS.down n ⟨t,b⟩=⟨t.map λy=>(y.1,y.2.down n),b.map λj=>j.map (PV.down n)⟩:=X3 rfl rfl
def zlh:pW P nt fr .sk Q s=Q .n s:=X3 rfl rfl
def zlf(l:List PI):pW P nt fr (.rg l) Q s=ze P l (Q .n) s:=X3 rfl rfl
def zlc(h l:List PI):pW P nt fr (.dr h l) Q s=zf P h (qZ P fr h s.clean l (Q .n)) s.clean:=X3 rfl rfl
def zli(x y:PC):pW P nt fr (.sq x y) Q s=pW P nt fr x (kL (pW P nt fr y Q) Q) s:=X3 rfl rfl
def zla(id:Nat)(x:PC):pW P nt fr (.bk id x) Q s=pW P nt fr x (jM id Q) s:=X3 rfl rfl
def zld(id:Nat):pW P nt fr (.ex id) Q s=Q (.x id) s:=X3 rfl rfl
def zlg:pW P nt fr .rt Q s=Q .r s:=X3 rfl rfl
def zle(w:List Nat)(x:PC):pW P nt fr (.lp w x) Q s=pLoop (pW P nt fr x) Q s:=X3 rfl rfl
def zbr:ze P [] K s=K s:=X3 rfl rfl
def zbq:zf P [] K s=K s:=X3 rfl rfl
def zbs(h:List PI)(j:PS):qZ P fr h j [] K s=K s:=X3 rfl rfl
def zdD(h:List PI)(j:PS)(d:Option Nat)(x y:PO)(n:Nat)(l:List PI):qZ P fr h j (⟨d,none,.st x y n⟩::l) K s=ze P (⟨d,none,.st x y n⟩::l) K s:=by cases d<;>rfl
def zdA(h:List PI)(o:PS)(d:Option Nat)(j:List PV)(l:List PI):qZ P fr h o (⟨d,none,.al j⟩::l) K s=ze P (⟨d,none,.al j⟩::l) K s:=by cases d<;>rfl
def zdC(h:List PI)(j:PS)(d:Option Nat)(x:PO)(l:List PI):qZ P fr h j (⟨d,none,.bo x⟩::l) K s=ze P (⟨d,none,.bo x⟩::l) K s:=by cases d<;>rfl
def zgy(K:PS->Prop):kL K Q .n s=K s:=X3 rfl rfl
def zgA(K:PS->Prop)(i:Nat):kL K Q (.x i) s=Q (.x i) s:=X3 rfl rfl
def zgz(K:PS->Prop):kL K Q .r s=Q .r s:=X3 rfl rfl
def zb8(id:Nat):jM id Q .n s=Q .n s:=X3 rfl rfl
def zb9(id:Nat):jM id Q .r s=Q .r s:=X3 rfl rfl
def zca(id i:Nat):jM id Q (.x i) s=if i=id then Q .n s else Q (.x i) s:=X3 rfl rfl
def zf1(j:List RV)(r:PV):jG j r .n s=jC j s r:=X3 rfl rfl
def zf2(j:List RV)(r:PV):jG j r .r s=jC j s r:=X3 rfl rfl
def zf3(j:List RV)(r:PV)(i:Nat):jG j r (.x i) s=False:=X3 rfl rfl
def zgh(i:Nat)(r:PV):jC [.t i] s r=SubP 0 (s.get i) r:=X3 rfl rfl
def J8(j:List (List PV))(o:Nat):PV->Prop
 |.sl es (.r _ sz')=>es=j/\sz'=o
 |_=>False
def zf4(i o:Nat)(j:List (List PV)):zao i j o .n s=J8 j o (s.get i):=by
 show (match s.get i with|.sl es (.r _ sz')=>es=j/\sz'=o|_=>False)=_;cases s.get i<;>rfl
def zf5(i o:Nat)(j:List (List PV)):zao i j o .r s=J8 j o (s.get i):=by
 show (match s.get i with|.sl es (.r _ sz')=>es=j/\sz'=o|_=>False)=_;cases s.get i<;>rfl
def zdG(j o:List (List PV))(n m u:Nat):J8 o u (.sl j (.r n m))=(j=o/\m=u):=X3 rfl rfl
def zlF:Option PV->PV->Prop
 |some p,r=>p.resD=true/\SubP 0 p.sh r/\r.own=none
 |none,_=>False
def zlG:Option (List PV)->PV->Prop
 |some ps,r=>ps.all PV.resD=true/\SubP 0 (.tup (ps.map PV.sh)) r
 |none,_=>False
def rvC:Option PV->Option (List PV)->Option (List PV)
 |some p,some ps=>some (p::ps)
 |_,_=>none
def rvB:Option (List PV)->Nat->Bool->Nat->Option PV
 |some cs,o,true,n=>if o+n<=cs.length then some (.agg ((cs.drop o).take n)) else none
 |some cs,o,false,_=>cs[o]?
 |none,_,_,_=>none
def rvA:PV->List (List PV)->Bool->Nat->Option PV
 |.bx j o,b,ag,n=>rvB b[j]? o ag n
 |_,_,_,_=>none
def zlH(i:Nat)(j:Bool)(n:Nat)(r:PV):jC [.c i j n] s r=zlF (RV.get s (.c i j n)) r:=by
 show (match RV.get s (.c i j n)with|some p=>_|none=>False)=_;cases RV.get s (.c i j n)<;>rfl
def zlI(x y:RV)(l:List RV)(r:PV):jC (x::y::l) s r=zlG (YJ s (x::y::l)) r:=by
 have:jC (x::y::l) s r=(match YJ s (x::y::l)with|some j=>j.all PV.resD=true/\SubP 0 (.tup (j.map PV.sh)) r|none=>False):=by cases x<;>rfl
 rw[this];cases YJ s (x::y::l)<;>rfl
def ziM(p r:PV):zlF (some p) r=(p.resD=true/\SubP 0 p.sh r/\r.own=none):=X3 rfl rfl
def ziN(j:List PV)(r:PV):zlG (some j) r=(j.all PV.resD=true/\SubP 0 (.tup (j.map PV.sh)) r):=X3 rfl rfl
def zgl:YJ s []=some []:=X3 rfl rfl
def zd7(x:RV)(l:List RV):YJ s (x::l)=rvC (x.get s) (YJ s l):=by
 show ((x.get s).bind λp=>(YJ s l).map λj=>p::j)=_;cases x.get s<;>cases YJ s l<;>rfl
def zlN(p:PV)(j:List PV):rvC (some p) (some j)=some (p::j):=X3 rfl rfl
def zlP(i:Nat):RV.get ⟨t,b⟩ (.t i)=some (yr t i):=X3 rfl rfl
def zlO(i:Nat)(u:Bool)(n:Nat):RV.get ⟨t,b⟩ (.c i u n)=rvA (yr t i) b u n:=by
 unfold RV.get;simp only[zcX];cases yr t i<;>try rfl
 dsimp only[rvA];rename_i j o;generalize b[j]?=c;cases c<;>cases u<;>rfl
def zlK(j o:Nat)(u:Bool)(n:Nat):rvA (.bx j o) b u n=rvB b[j]? o u n:=X3 rfl rfl
def zlM(j:List PV)(o n:Nat):rvB (some j) o true n=if o+n<=j.length then some (.agg ((j.drop o).take n)) else none:=X3 rfl rfl
def zlL(j:List PV)(o n:Nat):rvB (some j) o false n=j[o]?:=X3 rfl rfl
def zb2(h:List PI)(x:Nat):Bool:=h.any λi=>i.d == some x
def cutP(P:Program)(h:List PI)(o:PS)(n d:Nat)(E:Prop)(p:PV)(l:List PI)(K:PS->Prop)(F:Prop):Prop:=(E/\∃keep,keepOk h n o keep/\ze P l K ⟨(d,p)::keep.map (λj=>(j,o.get j)),[]⟩)\/F
def zcV(P:Program)(h:List PI)(w:PS)(d n u i x:Nat)(o j:List (List PV))(y:PO)(l:List PI)(K:PS->Prop)(p:PV)(s:PS):Prop:=
 (h.all λy=>!(y.d == some i))=true/\s.get i=w.get i/\o=j/\(s.put (some x) (.sl j (.r n u))).ev y=s.ev y/\ze P l K (((s.put (some x) (.sl j (.r n u))).down n).put (some d) p)
def Qd(s:PS):List Nat->List (Nat×PV)
 |[]=>[]
 |j::r=>(j,s.get j)::Qd s r
def Vi(s:PS):∀l,Qd s l=l.map λj=>(j,s.get j)
 |[]=>rfl
 |j::r=>by simp[Qd,Vi s r]
def zba(s:PS):Qd s []=[]:=rfl
def JN(s:PS)(j:Nat)(r:List Nat):Qd s (j::r)=(j,s.get j)::Qd s r:=rfl
def cutP.mk{h:List PI}{j:PS}{n d:Nat}{E:Prop}{p:PV}{F:Prop}(keep:List Nat)(o:E)(hk:keepOk h n j keep)(u:ze P l K ⟨(d,p)::Qd j keep,[]⟩):cutP P h j n d E p l K F:=.inl ⟨o,keep,hk,by rw[<-Vi];exact u⟩
def cutP.full{h:List PI}{u:PS}{n d i x:Nat}{E:Prop}{p:PV}{y:PO}{j o:List (List PV)}{w:Nat}(A:(h.all λy=>!(y.d == some i))=true)(B:s.get i=u.get i)(C:j=o)(F:(s.put (some x) (.sl o (.r n w))).ev y=s.ev y)(G:ze P l K (((s.put (some x) (.sl o (.r n w))).down n).put (some d) p)):
 cutP P h u n d E p l K (zcV P h u d n w i x j o y l K p s):=.inr ⟨A,B,C,F,G⟩
def keepOk.mk2{h:List PI}{o:PS}{n i j:Nat}(u:(h.all λy=>!(y.d == some i))=true)(w:(h.all λy=>!(y.d == some j))=true)(B:simple1 n (o.get i))(C:simple1 n (o.get j))(A:(o.get i).own=none\/(o.get i).own≠(o.get j).own):keepOk h n o [i,j]:=by
 refine⟨λk hk=>?_,dJ A⟩;simp at hk;rcases hk with rfl|rfl
 .exact⟨u,B⟩
 .exact⟨w,C⟩
def zbG(n:Nat)(x:Value):simple1 n (.v x)=True:=rfl
def zbF(n m o:Nat)(j:List (List PV)):simple1 n (.sl j (.r m o))=(m≠n/\qK j/\∀e∈j,e.length=o):=rfl
def zk7(j:List (List PV))(n m:Nat):PV.own (.sl j (.r n m))=some n:=rfl
def ziB(P:Program)(h:List PI)(A:PS)(d i x u w:Nat)(y:PO)(o:List (List PV))(q:PV)(l:List PI)(K:PS->Prop)(s:PS):PV->Prop
 |.sl es0 (.r n sz')=>sz'=u/\QA q λj=>(∀e∈o,e.length=u)/\(∀e∈j,e.length=u)/\(o.length+j.length)*w<=140737488355328/\j≠[]/\cutP P h A n d (qK o/\qK j) (.sl (o++j) (.r n u)) l K (zcV P h A d n u i x es0 o y l K (.sl (o++j) (.r n u)) s)
 |_=>False
def zbp(P:Program)(fr:Prop)(h:List PI)(w:PS)(d x u o:Nat)(y:PO)(q:PV)(l:List PI)(K:PS->Prop)(s:PS):PV->Prop
 |.sl es (.n sz')=>sz'=u/\zb2 h x=true/\QA q λj=>qK es/\qK j/\(∀e∈es,e.length=u)/\(∀e∈j,e.length=u)/\(es.length+j.length)*o<=140737488355328/\j≠[]/\ze P l K ((qI h w).put (some d) (.sl (es++j) (.r d u)))
 |.sl es (.p i)=>fr/\zb2 h x=true/\ziB P h w d i x u o y es q l K s (w.get i)
 |_=>ze P (⟨some d,none,.ap (.t x) y u o⟩::l) K s
def zdB(h:List PI)(o:PS)(d x u j:Nat)(y:PO)(l:List PI):qZ P fr h o (⟨some d,none,.ap (.t x) y u j⟩::l) K s=zbp P fr h o d x u j y (s.ev y) l K s (s.get x):=by
 unfold qZ zbp;simp only;cases s.get x<;>rfl
def zix(h:List PI)(B:PS)(d x w o A:Nat)(y:PO)(q:PV)(l:List PI)(u:List (List PV)):zbp P fr h B d x w o y q l K s (.sl u (.n A))=(A=w/\zb2 h x=true/\QA q λj=>qK u/\qK j/\(∀e∈u,e.length=w)/\(∀e∈j,e.length=w)/\(u.length+j.length)*o<=140737488355328/\j≠[]/\ze P l K ((qI h B).put (some d) (.sl (u++j) (.r d w)))):=rfl
def ziy(h:List PI)(o:PS)(d x w j i:Nat)(y:PO)(q:PV)(l:List PI)(u:List (List PV)):zbp P fr h o d x w j y q l K s (.sl u (.p i))=(fr/\zb2 h x=true/\ziB P h o d i x w j y u q l K s (o.get i)):=rfl
def ziz(h:List PI)(w:PS)(d x o j n m:Nat)(y:PO)(q:PV)(l:List PI)(u:List (List PV)):zbp P fr h w d x o j y q l K s (.sl u (.r n m))=ze P (⟨some d,none,.ap (.t x) y o j⟩::l) K s:=rfl
def ziA(h:List PI)(w:PS)(d x o j:Nat)(y:PO)(q:PV)(l:List PI)(u:List (List PV)):zbp P fr h w d x o j y q l K s (.sl u .z)=ze P (⟨some d,none,.ap (.t x) y o j⟩::l) K s:=rfl
def ziC(h:List PI)(C:PS)(d i x u w n B:Nat)(y:PO)(o A:List (List PV))(q:PV)(l:List PI):ziB P h C d i x u w y o q l K s (.sl A (.r n B))=(B=u/\QA q λj=>(∀e∈o,e.length=u)/\(∀e∈j,e.length=u)/\(o.length+j.length)*w<=140737488355328/\j≠[]/\cutP P h C n d (qK o/\qK j) (.sl (o++j) (.r n u)) l K (zcV P h C d n u i x A o y l K (.sl (o++j) (.r n u)) s)):=rfl
def bCt:Option PV->Prop
 |some _=>True
 |none=>False
def zb7(p:PV):bCt (some p)=True:=X3 rfl rfl
def zb6:bCt none=False:=X3 rfl rfl
def K6(op:BinOp)(k:IntKind)(m n:Int):PV:=match op with
 |.add=>match k with|.i64=>.v (.int .i64 (m+n))|k=>.v (.int k (k.wrap (m+n)))
 |.sub=>match k with|.i64=>.v (.int .i64 (m-n))|k=>.v (.int k (k.wrap (m-n)))
 |.mul=>match k with|.i64=>.v (.int .i64 (m*n))|k=>.v (.int k (k.wrap (m*n)))
 |.quo=>match k with|.i64=>.v (.int .i64 (m.tdiv n))|k=>.v (.int k (k.wrap (m.tdiv n)))
 |.rem=>.v (.int k (m.tmod n))
 |.eql=>.v (.bool (decide (m=n)))
 |.neq=>.v (.bool (!decide (m=n)))
 |.lss=>.v (.bool (decide (m<n)))
 |.leq=>.v (.bool (decide (m<=n)))
 |.gtr=>.v (.bool (decide (n<m)))
 |.geq=>.v (.bool (decide (n<=m)))
 |.shr=>.v (.int k (zgm k m n))
 |_=>.und
def rng(k:IntKind)(n:Int):Prop:=match k with
 |.i64 =>-9223372036854775808<=n/\n<9223372036854775808
 |_=>True
def zft(op:BinOp)(k:IntKind)(m n:Int):Prop:=match op with
 |.add=>rng k (m+n)
 |.sub=>rng k (m-n)
 |.mul=>rng k (m*n)
 |.quo=>n≠0/\rng k (m.tdiv n)
 |.rem=>n≠0
 |.shr=>0<=n
 |.eql|.neq|.lss|.leq|.gtr|.geq=>True
 |_=>False
def zaH(op:BinOp)(p q:PV):Prop:=match p,q with
 |.v (.int k a),.v (.int k' b)=>k=k'/\zft op k a b
 |_,_=>False
def Jj(op:BinOp)(p q:PV):PV:=match p,q with
 |.v (.int k a),.v (.int _ b)=>K6 op k a b
 |_,_=>.und
def zgg{k:IntKind}{n:Int}{K:PV->Prop}:qar k n K=(rng k n/\K (match k with|.i64=>.v (.int .i64 n)|k=>.v (.int k (k.wrap n)))):=by
 cases k<;>simp[qar,rng]
def zdW{op:BinOp}{p q:PV}{K:PV->Prop}:QB op p q K=(zaH op p q/\K (Jj op p q)):=by
 unfold QB zaH Jj;split
 .rename_i k a k' b;by_cases e:k=k'
  .subst e;cases op<;>simp[Xo,zft,K6,zgg,uE]
  .simp[e]
 .simp
def qY:PV->Prop
 |.v (.bool _)=>True
 |_=>False
def bV:PV->Bool
 |.v (.bool c)=>c
 |_=>false
def xD{p:PV}{K:Bool->Prop}:qV p K=(qY p/\K (bV p)):=by
 unfold qV qY bV;split<;>simp
def qb:PV->Prop
 |.v (.int _ _)=>True
 |_=>False
def iK:PV->IntKind
 |.v (.int k _)=>k
 |_=>.i64
def iV:PV->Int
 |.v (.int _ n)=>n
 |_=>0
def xF{p:PV}{K:IntKind->Int->Prop}:vR p K=(qb p/\K (iK p) (iV p)):=by
 unfold vR qb iK iV;split<;>simp
def yq:PV->Prop
 |.sl _ _=>True
 |_=>False
def eV:PV->List (List PV)
 |.sl es _=>es
 |_=>[]
def jo{p:PV}{K:List (List PV)->Prop}:QA p K=(yq p/\K (eV p)):=by
 unfold QA yq eV;split<;>simp
def zh1(c:Bool):qY (.v (.bool c))=True:=X3 rfl rfl
def zmi(c:Bool):bV (.v (.bool c))=c:=X3 rfl rfl
def zfz(k:IntKind)(n:Int):qb (.v (.int k n))=True:=X3 rfl rfl
def zmQ(k:IntKind)(n:Int):iK (.v (.int k n))=k:=X3 rfl rfl
def zmR(k:IntKind)(n:Int):iV (.v (.int k n))=n:=X3 rfl rfl
def zh7(j:List (List PV))(o:Ow):yq (.sl j o)=True:=X3 rfl rfl
def zmm(j:List (List PV))(o:Ow):eV (.sl j o)=j:=X3 rfl rfl
def zhk(op:BinOp)(k j:IntKind)(m n:Int):zaH op (.v (.int k m)) (.v (.int j n))=(k=j/\zft op k m n):=X3 rfl rfl
def zhl(op:BinOp)(k j:IntKind)(m n:Int):Jj op (.v (.int k m)) (.v (.int j n))=K6 op k m n:=X3 rfl rfl
def zlJ(n:Int):rng .u64 n=True:=X3 rfl rfl
def KW:PV->Prop
 |.bx _ _=>True
 |.cp _ _=>True
 |_=>False
def faV(j:Nat):PV->PV
 |.bx i o=>.bx i (o+j)
 |.cp cs o=>.cp cs (o+j)
 |_=>.und
def zj1(i o:Nat):KW (.bx i o)=True:=X3 rfl rfl
def zj2(j:List PV)(o:Nat):KW (.cp j o)=True:=X3 rfl rfl
def zj3(n i o:Nat):faV n (.bx i o)=.bx i (o+n):=X3 rfl rfl
def zj4(n:Nat)(j:List PV)(o:Nat):faV n (.cp j o)=.cp j (o+n):=X3 rfl rfl
def Yg(j:List PV)(o:Nat)(u:Bool)(n:Nat):Prop:=match u with
 |true=>o+n<=j.length
 |false=>j[o]?.isSome=true
def QT(j:List PV)(o:Nat)(u:Bool)(n:Nat):PV:=match u with
 |true=>.agg ((j.drop o).take n)
 |false=>j[o]?.getD .und
def Xn{u:List PV}{o:Nat}{j:Bool}{n:Nat}{K:PV->Prop}:VI u o j n K=(Yg u o j n/\K (QT u o j n)):=by
 cases j
 .simp only[VI,Yg,QT];cases u[o]?<;>simp
 .simp[VI,Yg,QT]
def zjA(j:List PV)(o n:Nat):Yg j o true n=(o+n<=j.length):=X3 rfl rfl
def zjz(j:List PV)(o n:Nat):Yg j o false n=(j[o]?.isSome=true):=X3 rfl rfl
def zjC(j:List PV)(o n:Nat):QT j o true n=.agg ((j.drop o).take n):=X3 rfl rfl
def zjB(j:List PV)(o n:Nat):QT j o false n=j[o]?.getD .und:=X3 rfl rfl
def ldC(bs:List (List PV))(p:PV)(j:Bool)(n:Nat):Prop:=match p with
 |.cp cs o=>Yg cs o j n
 |.bx i o=>bs[i]?.isSome=true/\zY (((bs[i]?.getD []).drop o).take n)=true/\Yg (bs[i]?.getD []) o j n
 |_=>False
def ldF(bs:List (List PV))(p:PV):Prop:=match p with
 |.cp cs o=>Yg cs o false 1
 |.bx i o=>bs[i]?.isSome=true/\Yg (bs[i]?.getD []) o false 1
 |_=>False
def zkL(bs:List (List PV))(j:List PV)(o:Nat):ldF bs (.cp j o)=Yg j o false 1:=X3 rfl rfl
def zkK(bs:List (List PV))(i o:Nat):ldF bs (.bx i o)=(bs[i]?.isSome=true/\Yg (bs[i]?.getD []) o false 1):=X3 rfl rfl
def ldV(bs:List (List PV))(p:PV)(j:Bool)(n:Nat):PV:=match p with
 |.cp cs o=>QT cs o j n
 |.bx i o=>QT (bs[i]?.getD []) o j n
 |_=>.und
def zkI(bs:List (List PV))(u:List PV)(o:Nat)(j:Bool)(n:Nat):ldC bs (.cp u o) j n=Yg u o j n:=X3 rfl rfl
def zkH(bs:List (List PV))(i o n:Nat)(j:Bool):ldC bs (.bx i o) j n=(bs[i]?.isSome=true/\zY (((bs[i]?.getD []).drop o).take n)=true/\Yg (bs[i]?.getD []) o j n):=X3 rfl rfl
def zkN(bs:List (List PV))(u:List PV)(o:Nat)(j:Bool)(n:Nat):ldV bs (.cp u o) j n=QT u o j n:=X3 rfl rfl
def zkM(bs:List (List PV))(i o:Nat)(j:Bool)(n:Nat):ldV bs (.bx i o) j n=QT (bs[i]?.getD []) o j n:=X3 rfl rfl
def qv:PV->Prop
 |.agg _=>True
 |.v x=>x.oneCell'=true
 |.sl _ _=>True
 |.cp _ _=>True
 |.bx _ _=>True
 |.fn _ _ _=>True
 |.ifc _ _=>True
 |_=>False
def ql:PV->List PV
 |.agg cs=>cs
 |p=>[p]
def xX{p:PV}{K:List PV->Prop}:qW p K=(qv p/\K (ql p)):=by
 cases p<;>simp[qW,qv,ql]
def Jn(j:List PV):qv (.agg j)=True:=X3 rfl rfl
def zcf(k:IntKind)(n:Int):qv (.v (.int k n))=True:=by simp[qv,Value.oneCell']
def zce(c:Bool):qv (.v (.bool c))=True:=by simp[qv,Value.oneCell']
def Jp:qv (.v .nilIface)=True:=by simp[qv,Value.oneCell']
def zcg(j:List (List PV))(o:Ow):qv (.sl j o)=True:=X3 rfl rfl
def zaL(i o:Nat):qv (.bx i o)=True:=X3 rfl rfl
def zaM(f:Fn)(x y:List PV):qv (.fn f x y)=True:=X3 rfl rfl
def Jo(t:TypeId)(x:PV):qv (.ifc t x)=True:=X3 rfl rfl
def Jq(j:List PV):ql (.agg j)=j:=X3 rfl rfl
def zci(x:Value):ql (.v x)=[.v x]:=X3 rfl rfl
def zch(j:List (List PV))(o:Ow):ql (.sl j o)=[.sl j o]:=X3 rfl rfl
def zaN(i o:Nat):ql (.bx i o)=[.bx i o]:=X3 rfl rfl
def zaO(f:Fn)(x y:List PV):ql (.fn f x y)=[.fn f x y]:=X3 rfl rfl
def Jr(t:TypeId)(x:PV):ql (.ifc t x)=[.ifc t x]:=X3 rfl rfl
def vM(s:PS):List (Nat×Nat×PO)->List PV->Prop
 |[],_=>True
 |(off,n,x)::r,zs=>qv (s.ev x)/\(ql (s.ev x)).length=n/\off+n<=zs.length/\zY (ql (s.ev x))=true/\vM s r (XI zs ((ql (s.ev x)).map PV.sh) off)
def xV(s:PS):List (Nat×Nat×PO)->List PV->List PV
 |[],zs=>zs
 |(off,_,x)::r,zs=>xV s r (XI zs ((ql (s.ev x)).map PV.sh) off)
def Qz{K:List PV->Prop}:∀(o:List (Nat×Nat×PO))(j:List PV),vS s o j K=(vM s o j/\K (xV s o j))
 |[],j=>by simp[vS,vM,xV]
 |(off,n,x)::r,j=>by simp[vS,vM,xV,xX,Qz r,uE]
def vr(s:PS)(j:Nat):List PO->Prop
 |[]=>True
 |x::r=>qv (s.ev x)/\(ql (s.ev x)).length=j/\zY (ql (s.ev x))=true/\vr s j r
def xP(s:PS):List PO->List (List PV)
 |[]=>[]
 |x::r=>(ql (s.ev x)).map PV.sh::xP s r
def j5{o:Nat}:∀(j:List PO)(K:List (List PV)->Prop),yP s o j K=(vr s o j/\K (xP s j))
 |[],K=>by simp[yP,vr,xP]
 |x::r,K=>by simp[yP,vr,xP,xX,j5 r,uE]
def bdC(s:PS):Option PO->Prop
 |none=>True
 |some y=>qb (s.ev y)/\0<=iV (s.ev y)
def KE(s:PS)(n:Nat):Option PO->Nat
 |none=>n
 |some y=>(iV (s.ev y)).toNat
def zas{y:Option PO}{n:Nat}{K:Nat->Prop}:qBd s y n K=(bdC s y/\K (KE s n y)):=by
 cases y<;>simp[qBd,bdC,KE,xF,uE]
def callP(P:Program)(f:FuncId)(j:List PV)(K:PS->Prop)(d:Option Nat)(s:PS):Prop:=∃r,Cn P f j r/\zY j=true/\K (s.put d r)
def callQ(P:Program)(f:FuncId)(j:List PV)(K:PS->Prop)(d:Option Nat)(s:PS):Prop:=∃r,Cn P f j r/\zY j=true/\K (s.put d r.strip)
def callO(P:Program)(f:FuncId)(o:List (List PV))(n w:Nat)(j:List PV)(K:PS->Prop)(d:Option Nat)(s:PS):Prop:=callP P f (.sl o .sh::j) K d s\/∃u,OCn P f o w j u/\zY j=true/\K ((s.down n).put d (.sl u (.r n w)))
def callP.mk{f:FuncId}{j:List PV}{r:PV}(h:Cn P f j r)(o:zY j=true)(hk:K (s.put d r)):callP P f j K d s:=⟨r,h,o,hk⟩
def callQ.mk{f:FuncId}{j:List PV}{r:PV}(h:Cn P f j r)(o:zY j=true)(hk:K (s.put d r.strip)):callQ P f j K d s:=⟨r,h,o,hk⟩
def callO.mk{f:FuncId}{w j:List (List PV)}{n o:Nat}{u:List PV}(h:OCn P f w o u j)(y:zY u=true)(hk:K ((s.down n).put d (.sl j (.r n o)))):callO P f w n o u K d s:=.inr ⟨j,h,y,hk⟩
def callO.rd{f:FuncId}{o:List (List PV)}{n w:Nat}{j:List PV}{r:PV}(h:Cn P f (.sl o .sh::j) r)(u:zY j=true)(hk:K (s.put d r)):callO P f o n w j K d s:=.inl ⟨r,h,by simpa[zY,PV.isD]using u,hk⟩
def evs(s:PS)(j:List PO):List PV:=j.map λx=>(s.ev x).sh
def zfg:evs s []=[]:=X3 rfl rfl
def zcQ(x:PO)(j:List PO):evs s (x::j)=(s.ev x).sh::evs s j:=X3 rfl rfl
def caD(P:Program)(f:FuncId)(p:PV)(j:List PV)(K:PS->Prop)(d:Option Nat)(s:PS):Prop:=match p with
 |.sl es (.r n sz)=>callO P f es n sz j K d s
 |p=>callP P f (p.sh::j) K d s
def brP(c:PV)(X Y:PS->Prop)(s:PS):Prop:=qY c/\if bV c=true then X s else Y s
def zlb(c:PO)(x y:PC):pW P nt fr (.cd c x y) Q s=brP (s.ev c) (pW P nt fr x Q) (pW P nt fr y Q) s:=by
 show qV _ _=_;rw[xD];unfold brP;cases bV (s.ev c)<;>simp
def zgL(X Y:PS->Prop):brP (.v (.bool true)) X Y s=X s:=by simp[brP,qY,bV]
def zgK(X Y:PS->Prop):brP (.v (.bool false)) X Y s=Y s:=by simp[brP,qY,bV]
def brP.mk{c:Bool}{X Y:PS->Prop}(j:c=true->X s)(o:c=false->Y s):brP (.v (.bool c)) X Y s:=by
 refine⟨trivial,?_⟩;cases c
 .exact o rfl
 .exact j rfl
def okG:PV->Prop
 |.v (.bool _)=>True
 |.v (.tuple vs)=>vs=#[]
 |_=>False
def wq(p:PV)(b:Bool):Prop:=match p with
 |.v (.bool c)=>c=b
 |_=>False
instance (p:PV) (b:Bool):Decidable (wq p b):=by unfold wq;split<;>infer_instance
def noS(s:PS)(i:Nat)(b:Bool):PV->PS
 |.v (.bool _)=>s.put (some i) (.v (.bool !b))
 |_=>s
def zk1(c:Bool):okG (.v (.bool c))=True:=X3 rfl rfl
def zk2:okG (.v undef)=True:=by simp[okG,undef]
def znH(c b:Bool):wq (.v (.bool c)) b=(c=b):=X3 rfl rfl
def znI(b:Bool):wq (.v undef) b=False:=by simp[wq,undef]
def zkY(i:Nat)(b c:Bool):noS s i b (.v (.bool c))=s.put (some i) (.v (.bool !b)):=X3 rfl rfl
def zkZ(i:Nat)(b:Bool):noS s i b (.v undef)=s:=X3 rfl rfl
def Ys{i:Nat}{b:Bool}{k:PK}{j no:PS->Prop}:PI.guard ⟨d,some (i,b),k⟩ s j no=(okG (s.get i)/\if wq (s.get i) b then j (s.put (some i) (.v (.bool b))) else no (noS s i b (s.get i))):=by
 unfold PI.guard;simp only;cases h:s.get i with
 | v x=>
   cases x<;>try (simp[okG];done)
   .rename_i c;simp only[okG,wq,noS,Un];cases c<;>cases b<;>simp
   .simp[okG,wq,noS]
 |_=>simp[okG]
def gdP(g:PV)(i:Nat)(b:Bool)(d:Option Nat)(X Y:PS->Prop)(s:PS):Prop:=okG g/\if wq g b then X (s.put (some i) (.v (.bool b))) else Y ((noS s i b g).put d (.v undef))
def J3(i:Nat)(b:Bool)(k:PK):ze P (⟨d,some (i,b),k⟩::l) K s=gdP (s.get i) i b d (ze P (⟨d,none,k⟩::l) K) (ze P l K) s:=Ys
def J2(i:Nat)(b:Bool)(k:PK):zf P (⟨d,some (i,b),k⟩::l) K s=gdP (s.get i) i b d (zf P (⟨d,none,k⟩::l) K) (zf P l K) s:=Ys
def zhO(i:Nat)(X Y:PS->Prop):gdP (.v (.bool true)) i true d X Y s=X (s.put (some i) (.v (.bool true))):=by simp[gdP,okG,wq]
def zhL(i:Nat)(X Y:PS->Prop):gdP (.v (.bool false)) i false d X Y s=X (s.put (some i) (.v (.bool false))):=by simp[gdP,okG,wq]
def zhN(i:Nat)(X Y:PS->Prop):gdP (.v (.bool true)) i false d X Y s=Y ((s.put (some i) (.v (.bool true))).put d (.v undef)):=by simp[gdP,okG,wq,noS]
def zhM(i:Nat)(X Y:PS->Prop):gdP (.v (.bool false)) i true d X Y s=Y ((s.put (some i) (.v (.bool false))).put d (.v undef)):=by simp[gdP,okG,wq,noS]
def zkc(i:Nat)(b:Bool)(X Y:PS->Prop):gdP (.v undef) i b d X Y s=Y (s.put d (.v undef)):=by simp[gdP,okG,wq,noS,undef]
def gdP.mkt{c:Bool}{i:Nat}{X Y:PS->Prop}(j:c=true->X (s.put (some i) (.v (.bool true))))(o:c=false->Y ((s.put (some i) (.v (.bool false))).put d (.v undef))):gdP (.v (.bool c)) i true d X Y s:=by
 refine⟨trivial,?_⟩;cases c<;>simp[wq,noS]<;>first|exact j rfl|exact o rfl
def gdP.mkf{c:Bool}{i:Nat}{X Y:PS->Prop}(j:c=true->Y ((s.put (some i) (.v (.bool true))).put d (.v undef)))(o:c=false->X (s.put (some i) (.v (.bool false)))):gdP (.v (.bool c)) i false d X Y s:=by
 refine⟨trivial,?_⟩;cases c<;>simp[wq,noS]<;>first|exact j rfl|exact o rfl
def zdP(op:BinOp)(x y:PO){Kv:PV->Prop}:PK.q P s (.bin op x y) Kv=(zaH op (s.ev x) (s.ev y)/\Kv (Jj op (s.ev x) (s.ev y))):=by simp only[PK.q,zdW]
def zdO(n:Bool)(x y:PO){Kv:PV->Prop}:PK.q P s (.beq n x y) Kv=((qY (s.ev x)/\qY (s.ev y))/\Kv (.v (.bool (n != (bV (s.ev x) == bV (s.ev y)))))):=by simp only[PK.q,xD,uE]
def zdU(x:PO){Kv:PV->Prop}:PK.q P s (.not x) Kv=(qY (s.ev x)/\Kv (.v (.bool (!bV (s.ev x))))):=by simp only[PK.q,xD]
def zg6(k:IntKind)(x:PO){Kv:PV->Prop}:PK.q P s (.cv k x) Kv=(qb (s.ev x)/\Kv (.v (.int k (k.wrap (iV (s.ev x)))))):=by simp only[PK.q,xF]
def zg8(x:PO)(o:Nat){Kv:PV->Prop}:PK.q P s (.fa x o) Kv=(KW (s.ev x)/\Kv (faV o (s.ev x))):=by
 simp only[PK.q];cases s.ev x<;>simp[KW,faV]
def zha(x y:PO)(n:Nat){Kv:PV->Prop}:PK.q P s (.ia x y n) Kv=((yq (s.ev x)/\qb (s.ev y)/\0<=iV (s.ev y)/\(eV (s.ev x))[(iV (s.ev y)).toNat]?.map List.length=some n)/\Kv (.cp ((eV (s.ev x))[(iV (s.ev y)).toNat]?.getD []) 0)):=by
 simp only[PK.q,jo,xF,uE];cases h:(eV (s.ev x))[(iV (s.ev y)).toNat]?<;>simp[h]
def zdR(x:PO)(j:Bool)(n:Nat){Kv:PV->Prop}:PK.q P s (.ld x j n) Kv=(ldC s.b (s.ev x) j n/\Kv ((ldV s.b (s.ev x) j n).strip)):=by
 simp only[PK.q];cases s.ev x<;>simp only[ldC,ldV,Xn,false_and];rename_i i o;cases s.b[i]?<;>simp[uE]
def zhc(x:PO){Kv:PV->Prop}:PK.q P s (.ln x) Kv=(yq (s.ev x)/\Kv (.v (.int .i64 (eV (s.ev x)).length))):=by simp only[PK.q,jo]
def zg5(o:List PV)(j:List (Nat×Nat×PO)){Kv:PV->Prop}:PK.q P s (.bd o j) Kv=(vM s j o/\Kv (.agg (xV s j o))):=by simp only[PK.q,Qz]
def zlw(n:Nat)(j:List PO){Kv:PV->Prop}:PK.q P s (.bs n j) Kv=(vr s n j/\Kv (.sl (xP s j) .z)):=by simp only[PK.q,j5]
def zkA(op:BinOp)(x y:PO):ze P (⟨d,none,.bin op x y⟩::l) K s=(zaH op (s.ev x) (s.ev y)/\ze P l K (s.put d (Jj op (s.ev x) (s.ev y)))):=zdP (P:=P) (s:=s) op x y (Kv:=λp=>ze P l K (s.put d p))
def zke(op:BinOp)(x y:PO):zf P (⟨d,none,.bin op x y⟩::l) K s=(zaH op (s.ev x) (s.ev y)/\PV.own (Jj op (s.ev x) (s.ev y))=none/\zf P l K (s.put d (Jj op (s.ev x) (s.ev y)))):=zdP (P:=P) (s:=s) op x y (Kv:=λp=>p.own=none/\zf P l K (s.put d p))
def zkz(n:Bool)(x y:PO):ze P (⟨d,none,.beq n x y⟩::l) K s=((qY (s.ev x)/\qY (s.ev y))/\ze P l K (s.put d (.v (.bool (n != (bV (s.ev x) == bV (s.ev y))))))):=zdO (P:=P) (s:=s) n x y (Kv:=λp=>ze P l K (s.put d p))
def zkd(n:Bool)(x y:PO):zf P (⟨d,none,.beq n x y⟩::l) K s=((qY (s.ev x)/\qY (s.ev y))/\PV.own (.v (.bool (n != (bV (s.ev x) == bV (s.ev y)))))=none/\zf P l K (s.put d (.v (.bool (n != (bV (s.ev x) == bV (s.ev y))))))):=zdO (P:=P) (s:=s) n x y (Kv:=λp=>p.own=none/\zf P l K (s.put d p))
def zkG(x:PO):ze P (⟨d,none,.not x⟩::l) K s=(qY (s.ev x)/\ze P l K (s.put d (.v (.bool (!bV (s.ev x)))))):=zdU (P:=P) (s:=s) x (Kv:=λp=>ze P l K (s.put d p))
def zki(x:PO):zf P (⟨d,none,.not x⟩::l) K s=(qY (s.ev x)/\PV.own (.v (.bool (!bV (s.ev x))))=none/\zf P l K (s.put d (.v (.bool (!bV (s.ev x)))))):=zdU (P:=P) (s:=s) x (Kv:=λp=>p.own=none/\zf P l K (s.put d p))
def zm2(k:IntKind)(x:PO):ze P (⟨d,none,.cv k x⟩::l) K s=(qb (s.ev x)/\ze P l K (s.put d (.v (.int k (k.wrap (iV (s.ev x))))))):=zg6 (P:=P) (s:=s) k x (Kv:=λp=>ze P l K (s.put d p))
def zmD(k:IntKind)(x:PO):zf P (⟨d,none,.cv k x⟩::l) K s=(qb (s.ev x)/\PV.own (.v (.int k (k.wrap (iV (s.ev x)))))=none/\zf P l K (s.put d (.v (.int k (k.wrap (iV (s.ev x))))))):=zg6 (P:=P) (s:=s) k x (Kv:=λp=>p.own=none/\zf P l K (s.put d p))
def zm3(x:PO)(o:Nat):ze P (⟨d,none,.fa x o⟩::l) K s=(KW (s.ev x)/\ze P l K (s.put d (faV o (s.ev x)))):=zg8 (P:=P) (s:=s) x o (Kv:=λp=>ze P l K (s.put d p))
def zmE(x:PO)(o:Nat):zf P (⟨d,none,.fa x o⟩::l) K s=(KW (s.ev x)/\PV.own (faV o (s.ev x))=none/\zf P l K (s.put d (faV o (s.ev x)))):=zg8 (P:=P) (s:=s) x o (Kv:=λp=>p.own=none/\zf P l K (s.put d p))
def zm5(x y:PO)(n:Nat):ze P (⟨d,none,.ia x y n⟩::l) K s=((yq (s.ev x)/\qb (s.ev y)/\0<=iV (s.ev y)/\(eV (s.ev x))[(iV (s.ev y)).toNat]?.map List.length=some n)/\ze P l K (s.put d (.cp ((eV (s.ev x))[(iV (s.ev y)).toNat]?.getD []) 0))):=zha (P:=P) (s:=s) x y n (Kv:=λp=>ze P l K (s.put d p))
def zmG(x y:PO)(n:Nat):zf P (⟨d,none,.ia x y n⟩::l) K s=((yq (s.ev x)/\qb (s.ev y)/\0<=iV (s.ev y)/\(eV (s.ev x))[(iV (s.ev y)).toNat]?.map List.length=some n)/\PV.own (.cp ((eV (s.ev x))[(iV (s.ev y)).toNat]?.getD []) 0)=none/\zf P l K (s.put d (.cp ((eV (s.ev x))[(iV (s.ev y)).toNat]?.getD []) 0))):=zha (P:=P) (s:=s) x y n (Kv:=λp=>p.own=none/\zf P l K (s.put d p))
def zmI(x:PO)(j:Bool)(n:Nat):zf P (⟨d,none,.ld x j n⟩::l) K s=(ldC s.b (s.ev x) j n/\PV.own ((ldV s.b (s.ev x) j n).strip)=none/\zf P l K (s.put d ((ldV s.b (s.ev x) j n).strip))):=zdR (P:=P) (s:=s) x j n (Kv:=λp=>p.own=none/\zf P l K (s.put d p))
def zm7(x:PO):ze P (⟨d,none,.ln x⟩::l) K s=(yq (s.ev x)/\ze P l K (s.put d (.v (.int .i64 (eV (s.ev x)).length)))):=zhc (P:=P) (s:=s) x (Kv:=λp=>ze P l K (s.put d p))
def zmJ(x:PO):zf P (⟨d,none,.ln x⟩::l) K s=(yq (s.ev x)/\PV.own (.v (.int .i64 (eV (s.ev x)).length))=none/\zf P l K (s.put d (.v (.int .i64 (eV (s.ev x)).length)))):=zhc (P:=P) (s:=s) x (Kv:=λp=>p.own=none/\zf P l K (s.put d p))
def zmX(o:List PV)(j:List (Nat×Nat×PO)):ze P (⟨d,none,.bd o j⟩::l) K s=(vM s j o/\ze P l K (s.put d (.agg (xV s j o)))):=zg5 (P:=P) (s:=s) o j (Kv:=λp=>ze P l K (s.put d p))
def zmz(o:List PV)(j:List (Nat×Nat×PO)):zf P (⟨d,none,.bd o j⟩::l) K s=(vM s j o/\PV.own (.agg (xV s j o))=none/\zf P l K (s.put d (.agg (xV s j o)))):=zg5 (P:=P) (s:=s) o j (Kv:=λp=>p.own=none/\zf P l K (s.put d p))
def zmZ(i n:Nat)(j:List PO):ze P (⟨some i,none,.bs n j⟩::l) K s=(vr s n j/\ze P l K (s.put (some i) (.sl (xP s j) (.r i n)))):=by show PK.e P (.bs n j) (some i) s (ze P l K)=_;simp only[PK.e,j5]
def zmA(n:Nat)(j:List PO):zf P (⟨d,none,.bs n j⟩::l) K s=(vr s n j/\PV.own (.sl (xP s j) .z)=none/\zf P l K (s.put d (.sl (xP s j) .z))):=zlw (P:=P) (s:=s) n j (Kv:=λp=>p.own=none/\zf P l K (s.put d p))
def zkE(x:PO)(n:Nat):ze P (⟨d,none,.ld x true n⟩::l) K s=(ldC s.b (s.ev x) true n/\ze P l K (s.put d (ldV s.b (s.ev x) true n).strip)):=zdR (P:=P) (s:=s) x true n (Kv:=λp=>ze P l K (s.put d p))
def ldW(bs:List (List PV))(p:PV):PV:=match p with
 |.cp cs o=>(QT cs o false 1).strip
 |.bx i o=>QT (bs[i]?.getD []) o false 1
 |_=>.und
def zkP(bs:List (List PV))(j:List PV)(o:Nat):ldW bs (.cp j o)=(QT j o false 1).strip:=X3 rfl rfl
def zkO(bs:List (List PV))(i o:Nat):ldW bs (.bx i o)=QT (bs[i]?.getD []) o false 1:=X3 rfl rfl
def zkD(x:PO):ze P (⟨d,none,.ld x false 1⟩::l) K s=(ldF s.b (s.ev x)/\ze P l K (s.put d (ldW s.b (s.ev x)))):=by
 show PK.e P (.ld x false 1) d s (ze P l K)=_;simp only[PK.e];split
 .rename_i i o h;rw[h];simp only[ldF,ldW,Yg,QT];cases s.b[i]? with
  |none=>simp
  |some j=>cases hc:j[o]?<;>simp[hc]
 .rename_i h;rw[zdR];cases hx:s.ev x<;>first|rfl|exact absurd hx (h _ _)|(simp[ldC,ldF];done)
def zib(i:Nat):ze P (⟨d,none,.mv (.t i)⟩::l) K s=ze P l K (s.put d (s.get i)):=X3 rfl rfl
def zh9(p:PV):ze P (⟨d,none,.mv (.c p)⟩::l) K s=ze P l K (s.put d p.strip):=X3 rfl rfl
def zia(f:FuncId):ze P (⟨d,none,.mv (.f f)⟩::l) K s=ze P l K (s.put d (.fn (.func f) [] [])):=X3 rfl rfl
def zhR(i:Nat):zf P (⟨d,none,.mv (.t i)⟩::l) K s=(((s.get i).pre i).own=none/\zf P l K (s.put d ((s.get i).pre i))):=X3 rfl rfl
def zhP(p:PV):zf P (⟨d,none,.mv (.c p)⟩::l) K s=(p.strip.own=none/\zf P l K (s.put d p.strip)):=X3 rfl rfl
def zhQ(f:FuncId):zf P (⟨d,none,.mv (.f f)⟩::l) K s=zf P l K (s.put d (.fn (.func f) [] [])):=by show (_=none/\_)=_;simp only[PS.ev,PV.strip,PV.own,Un]
def pkP(c:PV)(X Y:PS->Prop)(s:PS):Prop:=qY c/\if bV c=true then X s else Y s
def znc(c x y:PO):ze P (⟨d,none,.pk c x y⟩::l) K s=pkP (s.ev c) (λs'=>ze P l K (s'.put d (s'.ev x).strip)) (λs'=>ze P l K (s'.put d (s'.ev y).strip)) s:=by
 show qV _ _=_;rw[xD];unfold pkP;cases bV (s.ev c)<;>simp
def zmO(c x y:PO):zf P (⟨d,none,.pk c x y⟩::l) K s=pkP (s.ev c) (λs'=>zf P l K (s'.put d (s'.ev x).strip)) (λs'=>zf P l K (s'.put d (s'.ev y).strip)) s:=by
 show qV _ _=_;rw[xD];unfold pkP;cases bV (s.ev c)<;>simp[PV.strip_own]
def zlk(X Y:PS->Prop):pkP (.v (.bool true)) X Y s=X s:=by simp[pkP,qY,bV]
def zlj(X Y:PS->Prop):pkP (.v (.bool false)) X Y s=Y s:=by simp[pkP,qY,bV]
def eqC(m:Nat)(p q:PV):Prop:=match p,q with
 |.agg xs,.agg ys=>xs.length=m/\jy xs ys
 |_,_=>False
def eqB(p q:PV):Bool:=match p,q with
 |.agg xs,.agg ys=>xQ xs ys
 |_,_=>false
def zjW(m:Nat)(j o:List PV):eqC m (.agg j) (.agg o)=(j.length=m/\jy j o):=X3 rfl rfl
def zjU(j o:List PV):eqB (.agg j) (.agg o)=xQ j o:=X3 rfl rfl
def zfd:jy [] []=True:=X3 rfl rfl
def zcN(k j:IntKind)(a b:Int)(r o:List PV):jy (.v (.int k a)::r) (.v (.int j b)::o)=(k=j/\jy r o):=by rw[jy]
def zfe:xQ [] []=true:=X3 rfl rfl
def zcO(k o:IntKind)(a b:Int)(r j:List PV):xQ (.v (.int k a)::r) (.v (.int o b)::j)=(decide (a=b) && xQ r j):=by rw[xQ]
def zdQ(n:Bool)(x y:PO)(m:Nat){Kv:PV->Prop}:PK.q P s (.eq2 n x y m) Kv=(eqC m (s.ev x) (s.ev y)/\Kv (.v (.bool (n != eqB (s.ev x) (s.ev y))))):=by
 simp only[PK.q];generalize s.ev x=p;generalize s.ev y=q;unfold zbz eqC eqB;cases p<;>cases q<;>simp
def nlC:PV->Prop
 |.v .nilIface=>True
 |.ifc _ _=>True
 |_=>False
def nlB:PV->Bool
 |.v .nilIface=>true
 |_=>false
def zkW:nlC (.v .nilIface)=True:=X3 rfl rfl
def zkV(t:TypeId)(x:PV):nlC (.ifc t x)=True:=X3 rfl rfl
def zkU:nlB (.v .nilIface)=true:=X3 rfl rfl
def zkT(t:TypeId)(x:PV):nlB (.ifc t x)=false:=X3 rfl rfl
def zdT(n:Bool)(x:PO){Kv:PV->Prop}:PK.q P s (.nil n x) Kv=(nlC (s.ev x)/\Kv (.v (.bool (n != nlB (s.ev x))))):=by
 simp only[PK.q];cases s.ev x<;>simp[nlC,nlB];rename_i v;cases v<;>simp[nlC,nlB]
def zhf(x:PO){Kv:PV->Prop}:PK.q P s (.nc x) Kv=(KW (s.ev x)/\Kv (s.ev x)):=by
 simp only[PK.q];cases s.ev x<;>simp[KW]
def zhe(m:Bool)(x y:PO){Kv:PV->Prop}:PK.q P s (.mm m x y) Kv=((qb (s.ev x)/\qb (s.ev y)/\iK (s.ev x)=iK (s.ev y))/\Kv (.v (.int (iK (s.ev x)) (if m then (if iV (s.ev y) > iV (s.ev x) then iV (s.ev y) else iV (s.ev x)) else (if iV (s.ev y)<iV (s.ev x) then iV (s.ev y) else iV (s.ev x)))))):=by simp only[PK.q,xF,uE]
def zg4(x y:PO)(n j:Nat){Kv:PV->Prop}:PK.q P s (.aa x y n j) Kv=((qb (s.ev y)/\0<=iV (s.ev y)/\iV (s.ev y)<n/\KW (s.ev x))/\Kv (faV ((iV (s.ev y)).toNat*j) (s.ev x))):=by
 simp only[PK.q,xF,uE];cases s.ev x<;>simp[KW,faV]
def agC:PV->Prop
 |.agg _=>True
 |_=>False
def XL:PV->List PV
 |.agg cs=>cs
 |_=>[]
def zjm(j:List PV):agC (.agg j)=True:=X3 rfl rfl
def zjn(j:List PV):XL (.agg j)=j:=X3 rfl rfl
def zhb(x y:PO)(n:Nat)(o:Bool)(j:Nat){Kv:PV->Prop}:PK.q P s (.ix x y n o j) Kv=((qb (s.ev y)/\0<=iV (s.ev y)/\iV (s.ev y)<n/\agC (s.ev x)/\Yg (XL (s.ev x)) ((iV (s.ev y)).toNat*j) o j)/\Kv (QT (XL (s.ev x)) ((iV (s.ev y)).toNat*j) o j).strip):=by
 simp only[PK.q,xF,uE];cases s.ev x<;>simp[agC,XL,Xn,uE]
def zg9(x:PO)(o:Nat)(j:Bool)(n:Nat){Kv:PV->Prop}:PK.q P s (.fl x o j n) Kv=((agC (s.ev x)/\Yg (XL (s.ev x)) o j n)/\Kv (QT (XL (s.ev x)) o j n).strip):=by
 simp only[PK.q];cases s.ev x<;>simp[agC,XL,Xn]
def mfC(j:List PV):Bool:=j.all λp=>p.isD || p.isB
def zfL:mfC []=true:=X3 rfl rfl
def zdl(p:PV)(l:List PV):mfC (p::l)=((p.isD || p.isB) && mfC l):=X3 rfl rfl
def zkl(x:Value):PV.isB (.v x)=false:=X3 rfl rfl
def zhZ(j:List (List PV))(o:Ow):PV.isB (.sl j o)=false:=X3 rfl rfl
def zfu(j:List PV):PV.isB (.agg j)=false:=X3 rfl rfl
def zhW(i o:Nat):PV.isB (.bx i o)=true:=X3 rfl rfl
def zhX(j:List PV)(o:Nat):PV.isB (.cp j o)=false:=X3 rfl rfl
def zhY(f:Fn)(x y:List PV):PV.isB (.fn f x y)=false:=X3 rfl rfl
def zfv(t:TypeId)(x:PV):PV.isB (.ifc t x)=false:=X3 rfl rfl
def zh2(i o:Nat):PV.isD (.bx i o)=false:=X3 rfl rfl
def zh4(f:Fn)(x y:List PV):PV.isD (.fn f x y)=(x.all (λp=>!p.isB) && y.all (λp=>!p.isB)):=X3 rfl rfl
def zdS(f:Fn)(o j:List PO){Kv:PV->Prop}:PK.q P s (.mf f o j) Kv=((mfC (evs s o) && mfC (evs s j))=true/\Kv (.fn f (evs s o) (evs s j))):=by simp only[PK.q,mfC,evs,List.all_map];rfl
def zhd(t:TypeId)(x:PO){Kv:PV->Prop}:PK.q P s (.mi t x) Kv=((s.ev x).isD=true/\Kv (.ifc t (s.ev x).sh)):=by
 simp only[PK.q];cases (s.ev x).isD<;>simp
def clP(P:Program)(p:PV)(j:List PV)(K:PS->Prop)(d:Option Nat)(s:PS):Prop:=match p with
 |.fn (.func f) fs cs=>callQ P f (fs++j++cs) K d s
 |_=>False
def zjL(f:FuncId)(o j u:List PV):clP P (.fn (.func f) o j) u K d s=callQ P f (o++u++j) K d s:=X3 rfl rfl
def zm1(y:PO)(j:List PO):ze P (⟨d,none,.cl y j⟩::l) K s=clP P (s.ev y) (evs s j) (ze P l K) d s:=by
 show PK.q P s (.cl y j) (λp=>ze P l K (s.put d p))=_;simp only[PK.q];cases s.ev y<;>rfl
def zmC(y:PO)(j:List PO):zf P (⟨d,none,.cl y j⟩::l) K s=clP P (s.ev y) (evs s j) (zf P l K) d s:=by
 show PK.q P s (.cl y j) (λp=>p.own=none/\zf P l K (s.put d p))=_;simp only[PK.q,PV.strip_own,Un];cases s.ev y<;>rfl
def ivQ(P:Program)(t:TypeId)(m:String)(j:List PV)(K:PS->Prop)(d:Option Nat)(s:PS):Prop:=∃f,Mth P t m f/\callQ P f j K d s
def ivP(P:Program)(p:PV)(m:String)(j:List PV)(K:PS->Prop)(d:Option Nat)(s:PS):Prop:=match p with
 |.ifc t p=>ivQ P t m (p.sh::j) K d s
 |_=>False
def zpr(t:TypeId)(p:PV)(m:String)(j:List PV):ivP P (.ifc t p) m j K d s=ivQ P t m (p.sh::j) K d s:=X3 rfl rfl
def ivQ.mk{t:TypeId}{m:String}{j:List PV}{f:FuncId}(o:Mth P t m f)(h:callQ P f j K d s):ivQ P t m j K d s:=⟨f,o,h⟩
def zpS(y:PO)(m:String)(j:List PO):ze P (⟨d,none,.iv y m j⟩::l) K s=ivP P (s.ev y) m (evs s j) (ze P l K) d s:=by
 show PK.q P s (.iv y m j) (λp=>ze P l K (s.put d p))=_;simp only[PK.q];cases s.ev y<;>rfl
def zpO(y:PO)(m:String)(j:List PO):zf P (⟨d,none,.iv y m j⟩::l) K s=ivP P (s.ev y) m (evs s j) (zf P l K) d s:=by
 show PK.q P s (.iv y m j) (λp=>p.own=none/\zf P l K (s.put d p))=_;simp only[PK.q,PV.strip_own,Un];cases s.ev y<;>rfl
def sbP(op:BinOp)(p q:PV)(K:PV->Prop):Prop:=qsb op p q K
def zpv(op:BinOp)(a b:ByteArray)(K:PV->Prop):sbP op (.v (.string a)) (.v (.string b)) K=(a.size+b.size<=9223372036854775807/\K (sbV op a b)):=X3 rfl rfl
def zpx(a b:ByteArray):sbV .add a b=.v (.string (a++b)):=X3 rfl rfl
def zpy(a b:ByteArray):sbV .eql a b=.v (.bool (a.toList == b.toList)):=X3 rfl rfl
def zpz(a b:ByteArray):sbV .neq a b=.v (.bool !(a.toList == b.toList)):=X3 rfl rfl
def zpT(op:BinOp)(x y:PO):ze P (⟨d,none,.sb op x y⟩::l) K s=sbP op (s.ev x) (s.ev y) (λp=>ze P l K (s.put d p)):=X3 rfl rfl
def zpP(op:BinOp)(x y:PO):zf P (⟨d,none,.sb op x y⟩::l) K s=sbP op (s.ev x) (s.ev y) (λp=>p.own=none/\zf P l K (s.put d p)):=X3 rfl rfl
def zkB(n:Bool)(x y:PO)(m:Nat):ze P (⟨d,none,.eq2 n x y m⟩::l) K s=(eqC m (s.ev x) (s.ev y)/\ze P l K (s.put d (.v (.bool (n != eqB (s.ev x) (s.ev y)))))):=zdQ (P:=P) (s:=s) n x y m (Kv:=λp=>ze P l K (s.put d p))
def zkf(n:Bool)(x y:PO)(m:Nat):zf P (⟨d,none,.eq2 n x y m⟩::l) K s=(eqC m (s.ev x) (s.ev y)/\PV.own (.v (.bool (n != eqB (s.ev x) (s.ev y))))=none/\zf P l K (s.put d (.v (.bool (n != eqB (s.ev x) (s.ev y)))))):=zdQ (P:=P) (s:=s) n x y m (Kv:=λp=>p.own=none/\zf P l K (s.put d p))
def zkF(n:Bool)(x:PO):ze P (⟨d,none,.nil n x⟩::l) K s=(nlC (s.ev x)/\ze P l K (s.put d (.v (.bool (n != nlB (s.ev x)))))):=zdT (P:=P) (s:=s) n x (Kv:=λp=>ze P l K (s.put d p))
def zkh(n:Bool)(x:PO):zf P (⟨d,none,.nil n x⟩::l) K s=(nlC (s.ev x)/\PV.own (.v (.bool (n != nlB (s.ev x))))=none/\zf P l K (s.put d (.v (.bool (n != nlB (s.ev x)))))):=zdT (P:=P) (s:=s) n x (Kv:=λp=>p.own=none/\zf P l K (s.put d p))
def znb(x:PO):ze P (⟨d,none,.nc x⟩::l) K s=(KW (s.ev x)/\ze P l K (s.put d (s.ev x))):=zhf (P:=P) (s:=s) x (Kv:=λp=>ze P l K (s.put d p))
def zmN(x:PO):zf P (⟨d,none,.nc x⟩::l) K s=(KW (s.ev x)/\PV.own (s.ev x)=none/\zf P l K (s.put d (s.ev x))):=zhf (P:=P) (s:=s) x (Kv:=λp=>p.own=none/\zf P l K (s.put d p))
def zna(m:Bool)(x y:PO):ze P (⟨d,none,.mm m x y⟩::l) K s=((qb (s.ev x)/\qb (s.ev y)/\iK (s.ev x)=iK (s.ev y))/\ze P l K (s.put d (.v (.int (iK (s.ev x)) (if m then (if iV (s.ev y) > iV (s.ev x) then iV (s.ev y) else iV (s.ev x)) else (if iV (s.ev y)<iV (s.ev x) then iV (s.ev y) else iV (s.ev x))))))):=zhe (P:=P) (s:=s) m x y (Kv:=λp=>ze P l K (s.put d p))
def zmM(m:Bool)(x y:PO):zf P (⟨d,none,.mm m x y⟩::l) K s=((qb (s.ev x)/\qb (s.ev y)/\iK (s.ev x)=iK (s.ev y))/\PV.own (.v (.int (iK (s.ev x)) (if m then (if iV (s.ev y) > iV (s.ev x) then iV (s.ev y) else iV (s.ev x)) else (if iV (s.ev y)<iV (s.ev x) then iV (s.ev y) else iV (s.ev x)))))=none/\zf P l K (s.put d (.v (.int (iK (s.ev x)) (if m then (if iV (s.ev y) > iV (s.ev x) then iV (s.ev y) else iV (s.ev x)) else (if iV (s.ev y)<iV (s.ev x) then iV (s.ev y) else iV (s.ev x))))))):=zhe (P:=P) (s:=s) m x y (Kv:=λp=>p.own=none/\zf P l K (s.put d p))
def zmU(x y:PO)(n j:Nat):ze P (⟨d,none,.aa x y n j⟩::l) K s=((qb (s.ev y)/\0<=iV (s.ev y)/\iV (s.ev y)<n/\KW (s.ev x))/\ze P l K (s.put d (faV ((iV (s.ev y)).toNat*j) (s.ev x)))):=zg4 (P:=P) (s:=s) x y n j (Kv:=λp=>ze P l K (s.put d p))
def zmx(x y:PO)(n j:Nat):zf P (⟨d,none,.aa x y n j⟩::l) K s=((qb (s.ev y)/\0<=iV (s.ev y)/\iV (s.ev y)<n/\KW (s.ev x))/\PV.own (faV ((iV (s.ev y)).toNat*j) (s.ev x))=none/\zf P l K (s.put d (faV ((iV (s.ev y)).toNat*j) (s.ev x)))):=zg4 (P:=P) (s:=s) x y n j (Kv:=λp=>p.own=none/\zf P l K (s.put d p))
def zm6(x y:PO)(n:Nat)(o:Bool)(j:Nat):ze P (⟨d,none,.ix x y n o j⟩::l) K s=((qb (s.ev y)/\0<=iV (s.ev y)/\iV (s.ev y)<n/\agC (s.ev x)/\Yg (XL (s.ev x)) ((iV (s.ev y)).toNat*j) o j)/\ze P l K (s.put d ((QT (XL (s.ev x)) ((iV (s.ev y)).toNat*j) o j).strip))):=zhb (P:=P) (s:=s) x y n o j (Kv:=λp=>ze P l K (s.put d p))
def zmH(x y:PO)(n:Nat)(o:Bool)(j:Nat):zf P (⟨d,none,.ix x y n o j⟩::l) K s=((qb (s.ev y)/\0<=iV (s.ev y)/\iV (s.ev y)<n/\agC (s.ev x)/\Yg (XL (s.ev x)) ((iV (s.ev y)).toNat*j) o j)/\PV.own ((QT (XL (s.ev x)) ((iV (s.ev y)).toNat*j) o j).strip)=none/\zf P l K (s.put d ((QT (XL (s.ev x)) ((iV (s.ev y)).toNat*j) o j).strip))):=zhb (P:=P) (s:=s) x y n o j (Kv:=λp=>p.own=none/\zf P l K (s.put d p))
def zm4(x:PO)(o:Nat)(j:Bool)(n:Nat):ze P (⟨d,none,.fl x o j n⟩::l) K s=((agC (s.ev x)/\Yg (XL (s.ev x)) o j n)/\ze P l K (s.put d ((QT (XL (s.ev x)) o j n).strip))):=zg9 (P:=P) (s:=s) x o j n (Kv:=λp=>ze P l K (s.put d p))
def zmF(x:PO)(o:Nat)(j:Bool)(n:Nat):zf P (⟨d,none,.fl x o j n⟩::l) K s=((agC (s.ev x)/\Yg (XL (s.ev x)) o j n)/\PV.own ((QT (XL (s.ev x)) o j n).strip)=none/\zf P l K (s.put d ((QT (XL (s.ev x)) o j n).strip))):=zg9 (P:=P) (s:=s) x o j n (Kv:=λp=>p.own=none/\zf P l K (s.put d p))
def mfB(s:PS)(l:List PO):Bool:=l.any λx=>(s.ev x).isB
def zfK:mfB s []=false:=rfl
def zdk(x:PO)(l:List PO):mfB s (x::l)=((s.ev x).isB || mfB s l):=rfl
def zka:PS.fz ⟨t,b⟩=⟨t.map λy=>(y.1,y.2.fz b),[]⟩:=rfl
def zmv(x:Value):PV.fz b (.v x)=.v x:=rfl
def zhG(j:List PV):PV.fz b (.agg j)=.agg j:=rfl
def zhJ(j:List PV):PV.fz b (.tup j)=.tup j:=rfl
def zkb(j:List (List PV))(o:Ow):PV.fz b (.sl j o)=.sl j o:=rfl
def zj7(i o:Nat):PV.fz b (.bx i o)=.cp ((b[i]?.getD []).map PV.sh) o:=rfl
def zj8(j:List PV)(o:Nat):PV.fz b (.cp j o)=.cp j o:=rfl
def zhH(j:TypeId)(x:PV):PV.fz b (.ifc j x)=.ifc j x:=rfl
def zhK:PV.fz b .und=.und:=rfl
def zj9(f:Fn)(o j:List PV):PV.fz b (.fn f o j)=.fn f (o.map (PV.fz1 b)) (j.map (PV.fz1 b)):=rfl
def zhE(i o:Nat):PV.fz1 b (.bx i o)=.cp ((b[i]?.getD []).map PV.sh) o:=rfl
def zj6(x:Value):PV.fz1 b (.v x)=.v x:=rfl
def zhF(j:List PV)(o:Nat):PV.fz1 b (.cp j o)=.cp j o:=rfl
def zm8(f:Fn)(o j:List PO):ze P (⟨d,none,.mf f o j⟩::l) K s=if (mfB s o || mfB s j)=true then (s.b.all zY=true/\(mfC (evs s.fz o) && mfC (evs s.fz j))=true/\ze P l K (s.fz.put d (.fn f (evs s.fz o) (evs s.fz j)))) else ((mfC (evs s o) && mfC (evs s j))=true/\ze P l K (s.put d (.fn f (evs s o) (evs s j)))):=by
 show PK.e P (.mf f o j) d s (ze P l K)=_;simp only[PK.e,mfB];congr 1
 .rw[zdS (P:=P) (s:=s.fz) f o j (Kv:=λp=>ze P l K (s.fz.put d p))]
 .exact zdS (P:=P) (s:=s) f o j (Kv:=λp=>ze P l K (s.put d p))
def zmK(f:Fn)(o j:List PO):zf P (⟨d,none,.mf f o j⟩::l) K s=((mfC (evs s o) && mfC (evs s j))=true/\PV.own (.fn f (evs s o) (evs s j))=none/\zf P l K (s.put d (.fn f (evs s o) (evs s j)))):=zdS (P:=P) (s:=s) f o j (Kv:=λp=>p.own=none/\zf P l K (s.put d p))
def zm9(t:TypeId)(x:PO):ze P (⟨d,none,.mi t x⟩::l) K s=((s.ev x).isD=true/\ze P l K (s.put d (.ifc t (s.ev x).sh))):=zhd (P:=P) (s:=s) t x (Kv:=λp=>ze P l K (s.put d p))
def zmL(t:TypeId)(x:PO):zf P (⟨d,none,.mi t x⟩::l) K s=((s.ev x).isD=true/\PV.own (.ifc t (s.ev x).sh)=none/\zf P l K (s.put d (.ifc t (s.ev x).sh))):=zhd (P:=P) (s:=s) t x (Kv:=λp=>p.own=none/\zf P l K (s.put d p))
def znd(x:PO)(lo hi:Option PO)(n:Nat):ze P (⟨d,none,.sc x lo hi n⟩::l) K s=(yq (s.ev x)/\bdC s hi/\bdC s lo/\KE s 0 lo<=KE s (eV (s.ev x)).length hi/\KE s (eV (s.ev x)).length hi<=(eV (s.ev x)).length/\(∀e∈eV (s.ev x),e.length=n) /\
 ze P l K (s.put d (.sl (((eV (s.ev x)).take (KE s (eV (s.ev x)).length hi)).drop (KE s 0 lo)) .sh))):=by
 show PK.q P s (.sc x lo hi n) (λp=>ze P l K (s.put d p.strip))=_;have:∀j lo p,(PV.sl j (Xw lo p)).strip=.sl j .sh:=λj lo p=>by unfold Xw;split<;>rfl
 simp only[PK.q,jo,zas,this]
def zmP(x:PO)(lo hi:Option PO)(n:Nat):zf P (⟨d,none,.sc x lo hi n⟩::l) K s=(yq (s.ev x)/\bdC s hi/\bdC s lo/\KE s 0 lo<=KE s (eV (s.ev x)).length hi/\KE s (eV (s.ev x)).length hi<=(eV (s.ev x)).length/\(∀e∈eV (s.ev x),e.length=n) /\
 zf P l K (s.put d (.sl (((eV (s.ev x)).take (KE s (eV (s.ev x)).length hi)).drop (KE s 0 lo)) (Xw lo (s.ev x))))):=by
 show PK.q P s (.sc x lo hi n) (λp=>p.own=none/\zf P l K (s.put d p))=_;have:∀j lo p,(PV.sl j (Xw lo p)).own=none:=λj lo p=>by unfold Xw;split<;>rfl
 simp only[PK.q,jo,zas,this,Un]
def zjD:bdC s none=True:=X3 rfl rfl
def zjE(y:PO):bdC s (some y)=(qb (s.ev y)/\0<=iV (s.ev y)):=X3 rfl rfl
def zjF(n:Nat):KE s n none=n:=X3 rfl rfl
def zjG(n:Nat)(y:PO):KE s n (some y)=(iV (s.ev y)).toNat:=X3 rfl rfl
def zen(p:PV)(i:Nat):Prop:=match p with
 |.tup cs=>cs[i]?.isSome=true
 |_=>False
def tpV(p:PV)(i:Nat):PV:=match p with
 |.tup cs=>(cs[i]?.getD .und).strip
 |_=>.und
def zg7(x:PO)(i:Nat){Kv:PV->Prop}:PK.q P s (.ex x i) Kv=(zen (s.ev x) i/\Kv (tpV (s.ev x) i)):=by
 simp only[PK.q];cases s.ev x<;>simp only[zen,tpV,false_and];rename_i cs;cases cs[i]?<;>simp
def zkC(x:PO)(i:Nat):ze P (⟨d,none,.ex x i⟩::l) K s=(zen (s.ev x) i/\ze P l K (s.put d (tpV (s.ev x) i))):=zg7 (P:=P) (s:=s) x i (Kv:=λp=>ze P l K (s.put d p))
def zkg(x:PO)(i:Nat):zf P (⟨d,none,.ex x i⟩::l) K s=(zen (s.ev x) i/\(tpV (s.ev x) i).own=none/\zf P l K (s.put d (tpV (s.ev x) i))):=zg7 (P:=P) (s:=s) x i (Kv:=λp=>p.own=none/\zf P l K (s.put d p))
def zi7(j:List PV)(i:Nat):zen (.tup j) i=(j[i]?.isSome=true):=X3 rfl rfl
def zl2(j:List PV)(i:Nat):tpV (.tup j) i=(j[i]?.getD .und).strip:=X3 rfl rfl
def zmV(j:List PV):ze P (⟨d,none,.al j⟩::l) K s=ze P l K (PS.put ⟨s.t,s.b++[j]⟩ d (.bx s.b.length 0)):=X3 rfl rfl
def zmY(x:PO):ze P (⟨d,none,.bo x⟩::l) K s=(qv (s.ev x)/\ze P l K (PS.put ⟨s.t,s.b++[(ql (s.ev x)).map PV.sh]⟩ d (.bx s.b.length 0))):=xX
def stC(bs:List (List PV))(p q:PV)(n:Nat):Prop:=match p with
 |.bx i o=>bs[i]?.isSome=true/\qv q/\(ql q).length=n/\o+n<=(bs[i]?.getD []).length
 |_=>False
def stB(bs:List (List PV))(y:PO)(p q:PV):List (List PV):=match p with
 |.bx i o=>bs.set i (XI (bs[i]?.getD []) (yC y q (ql q)) o)
 |_=>bs
def zlY(bs:List (List PV))(i o:Nat)(q:PV)(n:Nat):stC bs (.bx i o) q n=(bs[i]?.isSome=true/\qv q/\(ql q).length=n/\o+n<=(bs[i]?.getD []).length):=X3 rfl rfl
def zlX(bs:List (List PV))(y:PO)(i o:Nat)(q:PV):stB bs y (.bx i o) q=bs.set i (XI (bs[i]?.getD []) (yC y q (ql q)) o):=X3 rfl rfl
def zne(x y:PO)(n:Nat):ze P (⟨d,none,.st x y n⟩::l) K s=(stC s.b (s.ev x) (s.ev y) n/\ze P l K (PS.put ⟨s.t,stB s.b y (s.ev x) (s.ev y)⟩ d (.v undef))):=by
 show PK.e P (.st x y n) d s (ze P l K)=_;simp only[PK.e];cases s.ev x<;>simp only[stC,stB,false_and];rename_i i o;cases s.b[i]?<;>simp[xX,uE]
def zm0(f:FuncId)(j:List PO):ze P (⟨d,none,.ca f j⟩::l) K s=match j with
 |.t i::xs'=>caD P f (s.get i) (evs s xs') (ze P l K) d s
 |j=>callP P f (evs s j) (ze P l K) d s:=by
 show PK.e P (.ca f j) d s (ze P l K)=_;simp only[PK.e];split
 .rename_i i xs';have e:s.ev (.t i)=s.get i:=rfl;simp only[Wx,e,caD];generalize s.get i=p;cases p with
  |sl es o=>cases o<;>rfl
  |_=>rfl
 .rename_i h;cases j with
  |nil=>rfl
  |cons x j=>cases x<;>first|rfl|exact absurd rfl (h _ _)
def zjI(f:FuncId)(j:List (List PV))(n o:Nat)(u:List PV):caD P f (.sl j (.r n o)) u K d s=callO P f j n o u K d s:=X3 rfl rfl
def zjJ(f:FuncId)(x:Value)(j:List PV):caD P f (.v x) j K d s=callP P f (.v x::j) K d s:=X3 rfl rfl
def zeM(f:FuncId)(j:List PV)(o:List PV):caD P f (.agg j) o K d s=callP P f (.agg j::o) K d s:=X3 rfl rfl
def zhp(f:FuncId)(j:List (List PV))(o:List PV):caD P f (.sl j .sh) o K d s=callP P f (.sl j .sh::o) K d s:=X3 rfl rfl
def zjK(f:FuncId)(j:List (List PV))(o:List PV):caD P f (.sl j .z) o K d s=callP P f (.sl j .sh::o) K d s:=X3 rfl rfl
def zeN(f:FuncId)(t:TypeId)(x:PV)(j:List PV):caD P f (.ifc t x) j K d s=callP P f (.ifc t x::j) K d s:=X3 rfl rfl
def zho(f:FuncId)(g:Fn)(x y:List PV)(j:List PV):caD P f (.fn g x y) j K d s=callP P f (.fn g x y::j) K d s:=X3 rfl rfl
def zmB(f:FuncId)(j:List PO):zf P (⟨d,none,.ca f j⟩::l) K s=callQ P f (evs s j) (zf P l K) d s:=by show (∃r,_/\_/\(PV.own _=none/\_))=_;simp only[PV.strip_own,Un];rfl
def apT(P:Program)(p q:PV)(x y:PO)(n m:Nat)(K:PS->Prop)(d:Option Nat)(s:PS):Prop:=match p with
 |.sl es (.r k sz')=>sz'=n/\isT x=true/\yq q/\(∀e∈eV q,e.length=n)/\(es.length+(eV q).length)*m<=140737488355328/\K ((s.down k).put d (.sl (es++eV q) (.r k n)))
 | .sl es .z=>(match d with
   |some d=>yq q/\(∀e∈es,e.length=n)/\(∀e∈eV q,e.length=n)/\(es.length+(eV q).length)*m<=140737488355328/\K (s.put (some d) (.sl (es++eV q) (apO es (eV q) d n)))
   |none=>PK.q P s (.ap x y n m) λp=>K (s.put d p.strip))
 |_=>False
def zmW(x y:PO)(n m:Nat):ze P (⟨d,none,.ap x y n m⟩::l) K s=apT P (s.ev x) (s.ev y) x y n m (ze P l K) d s:=by
 show PK.e P (.ap x y n m) d s (ze P l K)=_;simp only[PK.e,apT,jo];generalize s.ev x=p;cases p with
 | sl es o=>cases o with
   |z=>cases d<;>rfl
   |r k sz=>rfl
   |_=>rfl
 |_=>rfl
def zjt(o:List (List PV))(k j:Nat)(q:PV)(x y:PO)(n m:Nat):apT P (.sl o (.r k j)) q x y n m K d s=(j=n/\isT x=true/\yq q/\(∀e∈eV q,e.length=n)/\(o.length+(eV q).length)*m<=140737488355328/\K ((s.down k).put d (.sl (o++eV q) (.r k n)))):=X3 rfl rfl
def zju(j:List (List PV))(q:PV)(x y:PO)(d n m:Nat):apT P (.sl j .z) q x y n m K (some d) s=(yq q/\(∀e∈j,e.length=n)/\(∀e∈eV q,e.length=n)/\(j.length+(eV q).length)*m<=140737488355328/\K (s.put (some d) (.sl (j++eV q) (apO j (eV q) d n)))):=X3 rfl rfl
def zjr(j:List (List PV))(d n:Nat):apO [] j d n=.r d n:=by cases j<;>rfl
def zjq(o:List (List PV))(e:List PV)(j:List (List PV))(d n:Nat):apO o (e::j) d n=.r d n:=by cases o<;>rfl
def zjs(e:List PV)(j:List (List PV))(d n:Nat):apO (e::j) [] d n=.sh:=rfl
def apH(p q:PV)(n m:Nat):Prop:=match p with
 |.sl es .z=>yq q/\(∀e∈es,e.length=n)/\(∀e∈eV q,e.length=n)/\(es.length+(eV q).length)*m<=140737488355328
 |_=>False
def zjp(j:List (List PV))(q:PV)(n m:Nat):apH (.sl j .z) q n m=(yq q/\(∀e∈j,e.length=n)/\(∀e∈eV q,e.length=n)/\(j.length+(eV q).length)*m<=140737488355328):=X3 rfl rfl
def zmy(x y:PO)(n m:Nat):zf P (⟨d,none,.ap x y n m⟩::l) K s=(apH (s.ev x) (s.ev y) n m/\zf P l K (s.put d (.sl (eV (s.ev x)++eV (s.ev y)) (.n n)))):=by
 show PK.q P s (.ap x y n m) (λp=>p.own=none/\zf P l K (s.put d p))=_;simp only[PK.q,apH,jo];cases h:s.ev x<;>try simp
 rename_i es o;cases o<;>simp[eV,PV.own,uE]
def zgr(x:Value):PV.strip (.v x)=.v x:=X3 rfl rfl
def zbJ(j:List PV):PV.strip (.agg j)=.agg j:=X3 rfl rfl
def zbL(j:List PV):PV.strip (.tup j)=.tup j:=X3 rfl rfl
def zef(j:List (List PV)):PV.strip (.sl j .sh)=.sl j .sh:=X3 rfl rfl
def zgs(j:List (List PV)):PV.strip (.sl j .z)=.sl j .z:=X3 rfl rfl
def zgq(j:List (List PV))(n m:Nat):PV.strip (.sl j (.r n m))=.sl j .sh:=X3 rfl rfl
def zgp(j:List (List PV))(m:Nat):PV.strip (.sl j (.p m))=.sl j .sh:=X3 rfl rfl
def zgo(j:List (List PV))(m:Nat):PV.strip (.sl j (.n m))=.sl j .sh:=X3 rfl rfl
def zec(i o:Nat):PV.strip (.bx i o)=.bx i o:=X3 rfl rfl
def zed(j:List PV)(o:Nat):PV.strip (.cp j o)=.cp j o:=X3 rfl rfl
def zee(f:Fn)(x y:List PV):PV.strip (.fn f x y)=.fn f x y:=X3 rfl rfl
def zbK(t:TypeId)(x:PV):PV.strip (.ifc t x)=.ifc t x:=X3 rfl rfl
def znE(x:Value):PV.sh (.v x)=.v x:=X3 rfl rfl
def ziU(j:List PV):PV.sh (.agg j)=.agg j:=X3 rfl rfl
def ziW(j:List PV):PV.sh (.tup j)=.tup j:=X3 rfl rfl
def zlW(j:List (List PV))(o:Ow):PV.sh (.sl j o)=.sl j .sh:=X3 rfl rfl
def zlT(i o:Nat):PV.sh (.bx i o)=.bx i o:=X3 rfl rfl
def zlU(j:List PV)(o:Nat):PV.sh (.cp j o)=.cp j o:=X3 rfl rfl
def zlV(f:Fn)(x y:List PV):PV.sh (.fn f x y)=.fn f x y:=X3 rfl rfl
def ziV(t:TypeId)(x:PV):PV.sh (.ifc t x)=.ifc t x:=X3 rfl rfl
def zk8(x:Value):PV.own (.v x)=none:=X3 rfl rfl
def zfW(j:List PV):PV.own (.agg j)=none:=X3 rfl rfl
def zfY(j:List PV):PV.own (.tup j)=none:=X3 rfl rfl
def ziw(j:List (List PV)):PV.own (.sl j .sh)=none:=X3 rfl rfl
def zk9(j:List (List PV)):PV.own (.sl j .z)=none:=X3 rfl rfl
def zk6(j:List (List PV))(m:Nat):PV.own (.sl j (.p m))=none:=X3 rfl rfl
def zk5(j:List (List PV))(m:Nat):PV.own (.sl j (.n m))=none:=X3 rfl rfl
def zit(i o:Nat):PV.own (.bx i o)=none:=X3 rfl rfl
def ziu(j:List PV)(o:Nat):PV.own (.cp j o)=none:=X3 rfl rfl
def ziv(f:Fn)(x y:List PV):PV.own (.fn f x y)=none:=X3 rfl rfl
def zfX(t:TypeId)(x:PV):PV.own (.ifc t x)=none:=X3 rfl rfl
def zhA(n:Nat)(x:Value):PV.down n (.v x)=.v x:=X3 rfl rfl
def zcE(n:Nat)(j:List PV):PV.down n (.agg j)=.agg j:=X3 rfl rfl
def zcG(n:Nat)(j:List PV):PV.down n (.tup j)=.tup j:=X3 rfl rfl
def zfa(n:Nat)(j:List (List PV)):PV.down n (.sl j .sh)=.sl j .sh:=X3 rfl rfl
def zhB(n:Nat)(j:List (List PV)):PV.down n (.sl j .z)=.sl j .z:=X3 rfl rfl
def zhy(n m:Nat)(j:List (List PV)):PV.down n (.sl j (.p m))=.sl j (.p m):=X3 rfl rfl
def zhx(n m:Nat)(j:List (List PV)):PV.down n (.sl j (.n m))=.sl j (.n m):=X3 rfl rfl
def zhz(n m k:Nat)(j:List (List PV)):PV.down n (.sl j (.r m k))=if m=n then .sl j .sh else .sl j (.r m k):=X3 rfl rfl
def ze6(n i o:Nat):PV.down n (.bx i o)=.bx i o:=X3 rfl rfl
def ze7(n:Nat)(j:List PV)(o:Nat):PV.down n (.cp j o)=.cp j o:=X3 rfl rfl
def ze8(n:Nat)(f:Fn)(x y:List PV):PV.down n (.fn f x y)=.fn f x y:=X3 rfl rfl
def zcF(n:Nat)(t:TypeId)(x:PV):PV.down n (.ifc t x)=.ifc t x:=X3 rfl rfl
def zcH(n:Nat):PV.down n .und=.und:=X3 rfl rfl
def zcp:PS.clean ⟨t,b⟩=⟨t.map λy=>(y.1,y.2.clean),b⟩:=X3 rfl rfl
def zeV(x:Value):PV.clean (.v x)=.v x:=X3 rfl rfl
def zlo(j:Nat)(x:Value):PV.pre j (.v x)=.v x:=X3 rfl rfl
def zaP(j:List PV):PV.clean (.agg j)=.agg j:=X3 rfl rfl
def zf7(j:Nat)(o:List PV):PV.pre j (.agg o)=.agg o:=X3 rfl rfl
def zaR(j:List PV):PV.clean (.tup j)=.tup j:=X3 rfl rfl
def zga(j:Nat)(o:List PV):PV.pre j (.tup o)=.tup o:=X3 rfl rfl
def zcq(j:List (List PV)):PV.clean (.sl j .sh)=.sl j .sh:=X3 rfl rfl
def ziI(j:Nat)(o:List (List PV)):PV.pre j (.sl o .sh)=.sl o .sh:=X3 rfl rfl
def zeW(j:List (List PV)):PV.clean (.sl j .z)=.sl j .z:=X3 rfl rfl
def zlp(j:Nat)(o:List (List PV)):PV.pre j (.sl o .z)=.sl o .z:=X3 rfl rfl
def zcm(i o:Nat):PV.clean (.bx i o)=.bx i o:=X3 rfl rfl
def ziF(j:Nat)(i o:Nat):PV.pre j (.bx i o)=.bx i o:=X3 rfl rfl
def zcn(j:List PV)(o:Nat):PV.clean (.cp j o)=.cp j o:=X3 rfl rfl
def ziG(j:Nat)(u:List PV)(o:Nat):PV.pre j (.cp u o)=.cp u o:=X3 rfl rfl
def zco(f:Fn)(x y:List PV):PV.clean (.fn f x y)=.fn f x y:=X3 rfl rfl
def ziH(j:Nat)(f:Fn)(x y:List PV):PV.pre j (.fn f x y)=.fn f x y:=X3 rfl rfl
def zaQ(t:TypeId)(x:PV):PV.clean (.ifc t x)=.ifc t x:=X3 rfl rfl
def zf8(j:Nat)(t:TypeId)(x:PV):PV.pre j (.ifc t x)=.ifc t x:=X3 rfl rfl
def zaS  : PV.clean (.und)=.und:=X3 rfl rfl
def zgb(j:Nat)  : PV.pre j (.und)=.und:=X3 rfl rfl
def zeU(j:List (List PV))(n m:Nat):PV.clean (.sl j (.r n m))=.sl j (.r n m):=X3 rfl rfl
def zeS(j:List (List PV))(m:Nat):PV.clean (.sl j (.n m))=.sl j .sh:=X3 rfl rfl
def zeT(j:List (List PV))(m:Nat):PV.clean (.sl j (.p m))=.sl j .sh:=X3 rfl rfl
def zln(j:Nat)(o:List (List PV))(n m:Nat):PV.pre j (.sl o (.r n m))=.sl o (.p j):=X3 rfl rfl
def zll(j:Nat)(o:List (List PV))(m:Nat):PV.pre j (.sl o (.n m))=.sl o .sh:=X3 rfl rfl
def zlm(j:Nat)(o:List (List PV))(m:Nat):PV.pre j (.sl o (.p m))=.sl o .sh:=X3 rfl rfl
def zd8(j:List (List PV))(i:Nat):Xw none (.sl j (.p i))=.p i:=X3 rfl rfl
def zd9(y:PO)(p:PV):Xw (some y) p=.sh:=X3 rfl rfl
def ziT(j:List (List PV)):Xw none (.sl j .sh)=.sh:=X3 rfl rfl
def zlS(j:List (List PV)):Xw none (.sl j .z)=.sh:=X3 rfl rfl
def zlR(j:List (List PV))(n m:Nat):Xw none (.sl j (.r n m))=.sh:=X3 rfl rfl
def zlQ(j:List (List PV))(m:Nat):Xw none (.sl j (.n m))=.sh:=X3 rfl rfl
def zkm(x:Value):PV.isD (.v x)=true:=X3 rfl rfl
def zfw(j:List PV):PV.isD (.agg j)=true:=X3 rfl rfl
def zfy(j:List PV):PV.isD (.tup j)=true:=X3 rfl rfl
def zh5(j:List (List PV))(o:Ow):PV.isD (.sl j o)=true:=X3 rfl rfl
def zh3(j:List PV)(o:Nat):PV.isD (.cp j o)=true:=X3 rfl rfl
def zfx(t:TypeId)(x:PV):PV.isD (.ifc t x)=true:=X3 rfl rfl
def zb1:zY []=true:=X3 rfl rfl
def zaE(p:PV)(l:List PV):zY (p::l)=(p.isD && zY l):=X3 rfl rfl
end
section
variable {nb:Nat}
def zgx(p:PV):SubP nb p .und↔True:=⟨λ_=>trivial,λ_=>.und p⟩
def zl0(x y:Value):SubP nb (.v x) (.v y)↔x=y:=⟨λh=>by cases h<;>rfl,λh=>by subst h;exact .eq _ rfl⟩
def zgt(x y:List PV):SubP nb (.agg x) (.agg y)↔x=y:=⟨λh=>by cases h<;>rfl,λh=>by subst h;exact .eq _ rfl⟩
def zgw(x y:List PV):SubP nb (.tup x) (.tup y)↔x=y:=⟨λh=>by cases h<;>rfl,λh=>by subst h;exact .eq _ rfl⟩
def zgv(t j:TypeId)(x y:PV):SubP nb (.ifc t x) (.ifc j y)↔t=j/\x=y:=⟨λh=>by cases h<;>exact⟨rfl,rfl⟩,λ⟨h,h'⟩=>by subst h;subst h';exact .eq _ rfl⟩
def zi1(x y:List PV)(i j:Nat):SubP nb (.cp x i) (.cp y j)↔x=y/\i=j:=⟨λh=>by cases h<;>exact⟨rfl,rfl⟩,λ⟨h,h'⟩=>by subst h;subst h';exact .eq _ rfl⟩
def zi0(i j o u:Nat):SubP nb (.bx i o) (.bx j u)↔(i=j/\o=u)/\i<nb:=⟨λh=>by cases h<;>(rename_i h;exact⟨⟨rfl,rfl⟩,by simpa[zbe]using h⟩),λ⟨⟨h,h'⟩,h2⟩=>by subst h;subst h';exact .eq _ (by simpa[zbe]using h2)⟩
def zi2(f j:Fn)(x y o u:List PV):SubP nb (.fn f x y) (.fn j o u)↔(f=j/\x=o/\y=u)/\(x.all (JU nb) && y.all (JU nb))=true:=
 ⟨λh=>by cases h<;>(rename_i h;exact⟨⟨rfl,rfl,rfl⟩,h⟩),λ⟨⟨h,h',h3⟩,h2⟩=>by subst h;subst h';subst h3;exact .eq _ h2⟩
def zi3(x y:List (List PV))(o:Ow):SubP nb (.sl x o) (.sl y .sh)↔x=y:=⟨λh=>by cases h<;>rfl,λh=>by subst h;exact .sh (.sl x o) rfl⟩
def zl1(x y:List (List PV)):SubP nb (.sl x .z) (.sl y .z)↔x=y:=⟨λh=>by cases h<;>rfl,λh=>by subst h;exact .eq _ rfl⟩
def zlZ(x y:List (List PV))(n m o j:Nat):SubP nb (.sl x (.r n m)) (.sl y (.r o j))↔x=y/\n=o/\m=j:=⟨λh=>by cases h<;>exact⟨rfl,rfl,rfl⟩,λ⟨h,h',h2⟩=>by subst h;subst h';subst h2;exact .eq _ rfl⟩
def zi4(x y:List (List PV))(n m:Nat):SubP nb (.sl x .z) (.sl y (.r n m))↔x=[]/\y=[]:=⟨λh=>by cases h;exact⟨rfl,rfl⟩,λ⟨h,h'⟩=>by subst h;subst h';exact .nil _ _⟩
def zei(t o:List (Nat×PV))(b j:List (List PV)):YQ ⟨t,b⟩ ⟨o,j⟩↔SubT j.length t o/\SubB j.length b j:=UZ
def zbO(t:List (Nat×PV)):SubT nb t []↔True:=UZ
def Ko(t r:List (Nat×PV))(i:Nat)(q:PV):SubT nb t ((i,q)::r)↔SubP nb (yr t i) q/\SubT nb t r:=UZ
def zbM(l:List (List PV)):SubB nb l []↔True:=⟨λ_=>trivial,λ_=>.nil l⟩
def SubC(nb:Nat):List PV->List PV->Prop
 |[],[]=>True
 |p::l,q::r=>SubP nb p q/\SubC nb l r
 |_,_=>False
def SubC.get:∀{l r:List PV},SubC nb l r->l.length=r.length/\∀(j:Nat) p q,l[j]?=some p->r[j]?=some q->SubP nb p q
 |[],[],_=>⟨rfl,λj p q h=>by simp at h⟩
 | p::l,q::r,h=>by
   obtain⟨w,y⟩:=SubC.get h.2;refine⟨by simp[w],λj A B o u=>?_⟩;cases j with
   |zero=>simp at o u;subst o;subst u;exact h.1
   |succ j=>exact y j A B (dJ o) (dJ u)
 |[],_::_,h=>h.elim
 |_::_,[],h=>h.elim
def Km(o j:List PV)(l u:List (List PV))(h:SubC nb o j/\SubB nb l u):SubB nb (o::l) (j::u):=.cons _ _ _ _ h.1.get.1 h.1.get.2 h.2
def VZ:∀(l r:List PV),l.length=r.length->(∀(j:Nat) p q,l[j]?=some p->r[j]?=some q->SubP nb p q)->SubC nb l r
 |[],[],_,_=>trivial
 |p::l,q::r,h,hc=>⟨hc 0 p q rfl rfl,VZ l r (dJ h) λj p q o u=>hc (j+1) p q (dJ o) (dJ u)⟩
 |[],_::_,h,_=>by simp at h
 |_::_,[],h,_=>by simp at h
def Ye(o j:List PV)(l u:List (List PV)):SubB nb (o::l) (j::u)↔SubC nb o j/\SubB nb l u:=⟨λh=>by cases h with|cons _ _ _ _ h w y=>exact⟨VZ _ _ h w,y⟩,Km o j l u⟩
def zeh:SubC nb [] []↔True:=UZ
def zbN(p q:PV)(l r:List PV):SubC nb (p::l) (q::r)↔SubP nb p q/\SubC nb l r:=UZ
end
def Q2(s:Iv):List PV:=[.v (.int .u64 s.lo),.v (.int .u64 s.hi)]
def Je(s:Iv):PV:=.agg (Q2 s)
def yN(x:Nat):List PV:=[.v (.int .u64 x)]
def rg(l:List Iv):PV:=.sl (l.map Q2) .sh
def rgs(j:List (List Iv)):PV:=.sl (j.map λl=>[rg l]) .sh
def zja(n:Int):IntKind.u64.wrap n=n%18446744073709551616:=by simp only[IntKind.wrap,IntKind.bits,IntKind.signed,tc,uA,UX];rfl
def z7(k:Nat):(k:Int)+1=((k+1:Nat):Int):=X3 rfl rfl
def pLoop.mk{o:(PX->PS->Prop)->PS->Prop}{Q:PX->PS->Prop}{s:PS}{ι:Type}(J:ι->Prop)(S:ι->PS)(m:ι->Nat)(u:ι)(w:J u)(hs:YQ s (S u))(y:∀i,J i->o (kL (λs'=>∃j,J j/\m j<m i/\YQ s' (S j)) Q) (S i)):pLoop o Q s:=
 ⟨ι,J,S,m,u,w,hs,y⟩
def ziR{n:Int}(h : -9223372036854775808<=n/\n<9223372036854775808):rng .i64 n=True:=by simp[rng,h]
def xo{α:Type}{f:α->List PV}{l:List α}{k:Nat}(h:k<l.length):(l.map f)[k]?=some (f l[k]):=by rw[wk,Zv h];rfl
def Vr{k:Nat}(h:1<=k):(k:Int)-1=((k-1:Nat):Int):=a8
def zaf{a b:Nat}(h:b<=a):(a:Int)-(b:Int)=((a-b:Nat):Int):=a8
def zae(a b:Nat):(a:Int)+(b:Int)=((a+b:Nat):Int):=a8
def zbm{n:Int}(h:0<=n/\n<18446744073709551616):n%18446744073709551616=n:=Int.emod_eq_of_lt h.1 h.2
def ziX{a:Int}(h:0<=a):zgm .u64 a 1=a/2:=by unfold zgm;rw[Int.fdiv_eq_ediv_of_nonneg _ b8];rfl
def zdo(a:Nat):(a:Int)/2=((a/2:Nat):Int):=a8
def JG(s:PS):qI [] s=s:=rfl
def X9(i:PI)(h:List PI)(s:PS):qI (i::h) s=qI h (s.put i.d .und):=rfl
def zlr(j:List (List PV))(o:Ow)(K:List (List PV)->Prop):QA (.sl j o) K=K j:=rfl
def zkR{α β:Type}(f:α->β)(n:Nat)(l:List α):List.take n (l.map f)=(l.take n).map f:=List.map_take.symm
def zkQ{α β:Type}(f:α->β)(n:Nat)(l:List α):List.drop n (l.map f)=(l.drop n).map f:=List.map_drop.symm
def pLoop.go{P:Program}{nt:Nat}{fr:Prop}{w:PC}{Q:PX->PS->Prop}{t:List (Nat×PV)}{b:List (List PV)}{ι:Type}(J:ι->Prop)(T:ι->List (Nat×PV))(o:ι->List (List PV))(m:ι->Nat)(u:ι)(W:List Nat)(A:J u)
 (hs:YQ ⟨t,b⟩ ⟨T u++t.filter (λy=>!W.contains y.1),o u⟩) (B:∀i,J i->pW P nt fr w (kL (λs'=>∃j,J j/\m j<m i/\YQ s' ⟨T j++t.filter (λy=>!W.contains y.1),o j⟩) Q) ⟨T i++t.filter (λy=>!W.contains y.1),o i⟩):pLoop (pW P nt fr w) Q ⟨t,b⟩:=
 ⟨ι,J,λi=>⟨T i++t.filter (λy=>!W.contains y.1),o i⟩,m,u,A,hs,B⟩
def Dat.v_inv{D:Qk}{w:World}{x y:Value}(h:Dat D w x (.v y)):x=y:=(Rel.dat (ρ:=λ_=>0) (nb:=0) h).v_inv
def je{D:Qk}{w:World}{v:Value}{l:List Iv}(h:Dat D w v (rg l))(I:∀b o,D b o->b<w.heap.size)(hb:∀s∈l,s.lo<zk/\s.hi<zk):RdR 0 w.heap.size w v l:=by
 unfold rg at h;generalize F:l.map Q2=es at h;cases h with
 |sl a cap sz es o b off u hc hz hm ha hsz hd hx=>have G:es.length=l.length:=(by rw[<-F];simp);refine⟨a,cap,by rw[G],a8,hm,λB=>?_⟩;have y:0<l.length:=wV.2 B;have g:∀i (h:i<l.length),es[i]?=some (Q2 l[i]):=λi h=>(by rw[<-F];exact xo h);obtain rfl:2=sz:=hsz 0 _ (g 0 y);have A:es≠[]:=(by intro e;subst e;simp at G;omega);have j:b<w.heap.size:=I _ _ (hd 0 a8).1;refine⟨b,off,ha A,X4 _,j,λi hi=>?_⟩;have H:=(hx i _ 0 _ (g i hi) rfl).v_inv;have e1:=(hx i _ 1 _ (g i hi) rfl).v_inv;have C:=(hd (i*2+0) a8).2.1;have E:=(hd (i*2+1) a8).2.1;rw[H]at C;rw[e1]at E;exact⟨C,E,hb _ (Y1 _)⟩
def jp{D:Qk}{lo hi:Nat}{w:World}{v:Value}{l:List Iv}(h:RdR lo hi w v l)(N:∀b o,lo<=b->b<hi->D b o):Dat D w v (rg l):=by
 obtain⟨a,y,rfl,L,I,M⟩:=h;unfold rg;rw[show l.length=(l.map Q2).length by simp];by_cases A:l=[]
 .subst A;exact .sl a y 2 [] .sh 0 0 (λ_=>undef) b6 (λh=>by cases h) I (λh=>absurd rfl h) (λi e h=>by simp at h) (λj h=>by simp at h) (λi e j p h=>by simp at h)
 obtain⟨b,H,rfl,E,F,O⟩:=M A;refine .sl _ y 2 _ .sh b H (λj=>(xw l).getD j undef) (dJ L) (λh=>by cases h) I (λ_=>rfl) (λi e h=>?_) (λj P=>?_) (λi e j p G u=>?_)
 .simp only[wk,ZZ]at h;obtain⟨s,_,rfl⟩:=h;rfl
 .simp only[ww]at P;obtain⟨i,r,rfl,Q⟩:∃i r,j=i*2+r/\r<2:=⟨j/2,j%2,a8,a8⟩;have hi:i<l.length:=a8;obtain⟨J,K,_,_⟩:=O i hi;obtain⟨B,C⟩:=vz l i hi;refine⟨N _ _ E F,?_⟩;obtain rfl|rfl:r=0\/r=1:=a8
  .rw[vw,ud,B];exact⟨J,dG⟩
  .rw[vw,C];exact⟨K,dG⟩
 .have hi:i<l.length:=(by have:=(Zw.1 G).1;simpa using this);rw[xo hi]at G;cases G;obtain⟨B,C⟩:=vz l i hi;match j,u with
  |0,u=>cases u;simp only[vw,ud,B];exact .v _
  |1,u=>cases u;simp only[vw,C];exact .v _
  |j+2,u=>simp[Q2]at u
def Nrm.lt{l:List Iv}(h:Nrm l):∀s∈l,s.lo<zk/\s.hi<zk:=λs hs=>by have:=NF.lo_ge h s hs;omega
def Js{f:FuncId}{C:List PV}{r:PV}(G:r.own=none)(u:∀j w,(callFunc f j).run xT w=.ok (.enter f j) w)
 (h:∀(D:Qk)(w:World)(y:Array Value),(∀b o,D b o->b<w.heap.size)->y.size=C.length->(∀(i:Nat) p,C[i]?=some p->Dat D w (y.getD i undef) p) ->
   Calls xT f y w λe A=>∃v,e=.returned v/\Below w.heap.size w A/\Dat (λb o=>D b o\/(w.heap.size<=b/\b<A.heap.size)) A v r):Cn xT f C r:=by
 refine⟨u,λD w y _ E B F=>(h D w y E B F).mono ?_⟩;rintro e A ⟨v,rfl,hb,H⟩;exact⟨v,_,rfl,hb,λb o h=>.inl h,λb o h=>h.imp id UQ,λb o h=>h.elim (λh=>Vm (E b o h) hb.size) ub,H,zr G⟩
def zeJ{j:Array Value}(h:j.size=2):j=#[j.getD 0 undef,j.getD 1 undef]:=by
 obtain⟨l⟩:=j;match l,h with
 |[x,y],_=>rfl
def Jt{f:FuncId}{a b r:List Iv}(J:Nrm a)(hb:Nrm b)(u:∀j w,(callFunc f j).run xT w=.ok (.enter f j) w)
 (h:∀F G w,RdR 0 w.heap.size w F a->RdR 0 w.heap.size w G b->Calls xT f #[F,G] w λe B=>∃v,e=.returned v/\OwnR w.heap.size B v r/\Below w.heap.size w B):Cn xT f [rg a,rg b] (rg r):=by
 refine Js rfl u λD w L C A E=>?_;rw[zeJ A];refine(h _ _ w (je (E 0 _ rfl) C J.lt) (je (E 1 _ rfl) C hb.lt)).mono ?_;rintro e B ⟨v,rfl,K,y⟩;exact⟨v,rfl,y,jp K.rd λb o H I=>.inr ⟨H,I⟩⟩
def zaz(a b:List Iv)(j:Nrm a)(hb:Nrm b)(o:a.length+b.length<=1073741824):Cn xT 108 [rg a,rg b] (rg (qy zn a b)):=
 Jt j hb (enters_of Tryz.func108 dK rfl) λu y w ra rb=>V4 a b u y w j hb ra rb o
def zif(a b:List Iv)(j:Nrm a)(hb:Nrm b)(o:a.length+b.length<=1073741824):Cn xT 61 [rg a,rg b] (rg (qy fMeet a b)):=
 Jt j hb (enters_of Tryz.func61 dK rfl) λu y w ra rb=>JW a b u y w j hb ra rb o
def zg0(a:List Iv)(s:Iv)(E:Nrm a)(hs:s.lo<=s.hi)(A:s.hi<zk)(K:a.length<=1073741823):Cn xT 152 [rg a,Je s] (rg (qy zm [s] a)):=by
 refine Js rfl (enters_of Tryz.func152 dK rfl) λD w G I B F=>?_;rw[zeJ B];have j:G.getD 1 undef=.agg #[.int .u64 s.lo,.int .u64 s.hi]:=by
  have:=F 1 _ rfl;unfold Je at this;generalize G.getD 1 undef=v1 at this⊢;generalize J:Q2 s=cs at this;cases this with
  | agg us cs hs _ h=>
    subst J;obtain⟨l⟩:=us;match l,hs with
    |[x,y],_=>have C:=(h 0 _ rfl).v_inv;have e1:=(h 1 _ rfl).v_inv;simp at C e1;rw[C,e1]
 rw[j];refine(zbn a _ s w E hs A (je (F 0 _ rfl) I E.lt) K).mono ?_;rintro e M ⟨v,rfl,L,u⟩;exact⟨v,rfl,u,jp L.rd λb o j H=>.inr ⟨j,H⟩⟩
end
section
open Go.ChangeShapes Go.WideShapes Go.ChangeAt Go.Deep
def ZG(w:World):Nat->Nat->Prop:=λb _=>b<w.heap.size
def zhi(D:Qk)(w:World):List Value->List PV->Prop
 |[],[]=>True
 |v::l,p::ps=>Dat D w v p/\zhi D w l ps
 |_,_=>False
def XX{D:Qk}{w:World}:∀{l:List Value}{j:List PV},zhi D w l j->l.length=j.length/\∀(i:Nat) p,j[i]?=some p->Dat D w (l.getD i undef) p
 |[],[],_=>⟨rfl,λi p h=>by simp at h⟩
 | v::l,p::j,h=>by
   obtain⟨u,y⟩:=XX h.2;refine⟨by simp[u],λi q o=>?_⟩;cases i with
   |zero=>cases o;exact h.1
   |succ i=>simpa using y i q (dJ o)
 |[],_::_,h=>h.elim
 |_::_,[],h=>h.elim
def zeZ{f:FuncId}{u:List PV}{l:List Value}{W:World}(h:Cn xT f u (.v (.bool true)))(j:GL (ZG W) W)(A:zhi (ZG W) W l u):Calls xT f l.toArray W λe o=>e=.returned (.bool true)/\Below W.heap.size W o:=by obtain⟨w,y⟩:=XX A;refine(h.2 (ZG W) W l.toArray j (λ_ _ h=>h) (dJ w) (λi p B=>by have:=y i p B;simpa[vw]using this)).mono ?_;rintro e o ⟨v,E,rfl,hb,_,_,_,C,_⟩;rw[C.v_inv];exact⟨rfl,hb⟩
section
variable {H:Type}{enc:TypeId×Value->H}{w:World}{base:Nat}{spare:Nat->Bool}{held:Bool}
def zrh{r:Reach}{u:Nat}{v:Value}{d:DataW H}{y:List MemPlace}(j:Value.okWide xT w r u 24 v)(h:DataW.Trod enc xT w base spare held 24 v d y):∃l,Dat (ZG w) w v (rg l)/\∀s∈l,s.lo<zk/\s.hi<zk:=by obtain⟨l,o⟩:=zpo j h;exact⟨l,jp o λ_ _ _ h=>h,o.bound⟩
end
end
section
attribute [go_sem] zdN zdM zcX zmt zmr zms zdh zfG ze9 zlh zlf zlc zli zla zld zlg zle zbr zbq zbs zdD
attribute [go_sem] zdA zdC zgy zgA zgz zb8 zb9 zca zf1 zf2 zf3 JG X9 zlr zkR zkQ qK PV.v.injEq
attribute [go_sem] exists_eq' exists_eq ne_eq not_false_eq_true not_true_eq_false List.append_eq_nil_iff List.cons_ne_nil zf4 zf5 zdG zgh zlH zlI
attribute [go_sem] ziM ziN zgl zd7 zlN zlP zlO zlK zlM zlL PV.resD List.all_cons List.all_nil zdB zba JN zbG zbF
attribute [go_sem] zk7 zix ziy ziz ziA ziC zb7 zb6 zh1 zmi zfz zmQ zmR zh7 zmm zhk zhl zlJ zj1 zj2 zj3 zj4 zjA
attribute [go_sem] zjz zjC zjB zkI zkH zkL zkK zkP zkO zkN zkM Jn zcf zce Jp zcg zaL zaM Jo
attribute [go_sem] Jq zci zch zaN zaO Jr zfg zcQ zlb zgL zgK zhO zhL zhN zhM zkc zlk zlj zjW zjU
attribute [go_sem] zpr zpS zpO zpv zpx zpy zpz zpT zpP
attribute [go_sem] zfd zcN zfe zcO zkB zkf zkF zkh znb zmN zna zmM zmU zmx zm6 zmH zm4 zmF zm8 zmK zm9 zmL zm1 zmC zjL zkW zkV zkU zkT zjm zjn
attribute [go_sem] zfL zdl zkl zhZ zfu zhW zhX zhY zfv zh2 zh4 ziR xo Vr zaf zae zbm Int.cast_ofNat_Int
attribute [go_sem] Int.natCast_eq_zero List.length_eq_zero_iff decide_true decide_false List.filter_cons List.filter_nil List.contains_cons List.contains_nil Bool.or_false
attribute [go_sem] Bool.false_or Bool.or_true Bool.true_or Bool.and_false Bool.false_and List.any_cons List.any_nil List.mem_map forall_exists_index and_imp
attribute [go_sem] forall_apply_eq_imp_iff₂ List.mem_append List.mem_cons List.not_mem_nil List.mem_singleton or_false or_imp forall_and forall_eq_or_imp bne_self_eq_false
attribute [go_sem] Bool.bne_false Bool.bne_true Bool.false_bne Bool.true_bne beq_self_eq_true zk1 zk2 znH znI zkY zkZ J3 J2 zkA zke zkz
attribute [go_sem] zkd zkG zki zm2 zmD zm3 zmE zm5 zmG zmI zm7 zmJ zmX zmz zmZ zmA zkE zkD zib zh9 zia zhR zhP zhQ znc zmO znd
attribute [go_sem] zmP zjD zjE zjF zjG zkC zkg zi7 zl2 zmV zmY zlY zlX zne zm0 zjI zjJ zeM zhp zjK zeN zho zmB zmW zjt
attribute [go_sem] zju zjr zjq zjs zjp zmy vM xV vr xP K6 zft XI yC isT zgr zbJ zbL zef zgs zgq zgo
attribute [go_sem] zec zed zee zbK znE ziU ziW zlW zlT zlU zlV ziV zk8 zfW zfY ziw zk9 zk5 zit ziu ziv
attribute [go_sem] zfX zhA zcE zcG zfa zhB zhz zhx ze6 ze7 ze8 zcF zcH zcp zeV zaP zaR zcq
attribute [go_sem] zeW zcm zcn zco zaQ zaS zlo zf7 zga ziI zlp ziF ziG ziH zf8 zgb zeU zeS zeT
attribute [go_sem] zln zll zlm zd8 zd9 ziT zlS zlR zlQ zgp zk6 zhy zkm zfw zfy zh5 zh3 zfx zb1 zaE zgx
attribute [go_sem] zl0 zgt zgw zgv zi1 zi0 zi2 zi3 zl1 zlZ zi4 zei zbO Ko zbM Ye zeh zbN
attribute [go_sem] Value.int.injEq Value.bool.injEq Int.toNat_natCast Int.natCast_nonneg z7 zja Int.natCast_pos qQ Value.oneCell' Je rg Q2 yN rgs
attribute [go_sem] List.flatMap_nil List.length_cons List.length_nil List.map_cons List.map_nil List.nil_append List.cons_append List.append_nil List.getElem?_cons_zero
attribute [go_sem] List.getElem?_cons_succ List.getElem?_nil List.take_succ_cons List.take_zero List.drop_succ_cons List.drop_zero List.take_nil List.drop_nil
attribute [go_sem] List.set_cons_zero List.set_cons_succ List.length_map Option.map_some Option.some.injEq Option.isSome_some Option.getD_some decide_eq_true_eq
attribute [go_sem] Bool.and_eq_true Bool.or_eq_true true_and and_true false_and and_false forall_const true_implies false_implies implies_true Bool.true_eq_false
attribute [go_sem] Bool.false_eq_true Bool.not_true Bool.not_false Bool.and_true Bool.true_and Nat.zero_add Nat.add_zero Nat.le_refl Int.ofNat_le Int.ofNat_lt
attribute [go_sem] Int.ofNat_inj forall_eq
attribute [go_sem] ziX zdo zfK zdk zka zmv zhG zhJ zkb zj7 zj8 zhH zhK zj9 zhE zj6 zhF
def yI{a:Prop}(h:a:=by first|omega|assumption|exact True.intro|(show zb2 _ _=true;exact rfl)|(simp only[ww,wj,wv,Ww,Wc,W7];omega)):a:=h
def zb:(∀{p:Prop} [Decidable p],(decide p=true)=p)/\(∀{p:Prop}{x:Decidable p},decide p=false↔¬p)/\(∀(a b:Bool),((a && b)=true)=(a=true/\b=true))/\(∀(a b:Bool),((a || b)=true)=(a=true\/b=true))/\(∀(b:Bool),((!b)=true)=(b=false))/\(∀(b:Bool),((!b)=false)=(b=true))/\(∀{x y:Bool},(x && y)=false↔x=false\/y=false)/\(∀{x y:Bool},(x || y)=false↔x=false/\y=false)/\(∀{a b:Nat},¬a<b↔b<=a)/\(∀{a b:Int},¬a<b↔b<=a)/\(∀{a b:Nat},¬a<=b↔b<a)/\(∀{a b:Int},¬a<=b↔b<a)/\(∀{n m:Nat},(n:Int)<(m:Int)↔n<m)/\(∀{m n:Nat},(m:Int)<=(n:Int)↔m<=n)/\(∀{m n:Nat},(m:Int)=(n:Int)↔m=n)/\(∀(x:Bool),(x ^^ false)=x)/\(∀(x:Bool),(false ^^ x)=x)/\(∀(x:Bool),(true ^^ x)=!x)/\(∀(x:Bool),(x ^^ true)=!x)/\((!true)=false)/\((!false)=true):=
 ⟨@decide_eq_true_eq,@decide_eq_false_iff_not,@Bool.and_eq_true,@Bool.or_eq_true,@Bool.not_eq_true',@Bool.not_eq_false',@Bool.and_eq_false_iff,@Bool.or_eq_false_iff,@Nat.not_lt,@Int.not_lt,@Nat.not_le,@Int.not_le,@Int.ofNat_lt,@Int.ofNat_le,@Int.ofNat_inj,@Bool.xor_false,@Bool.false_xor,@Bool.true_xor,@Bool.xor_true,Bool.not_true,Bool.not_false⟩
def pw{G j:Prop}(k:j)(e:Hd j->G:=by intro o;(try simp (maxSteps:=2000000) (disch:=omega) only[go_sem,seval]);(repeat ((with_reducible refine And.intro ?_ ?_);focus exact yI));exact o.h):G:=e ⟨k⟩
def pd{G:Prop}(e:Hd True->G:=by intro j;(try simp (maxSteps:=2000000) (disch:=omega) only[go_sem,seval]);(repeat ((with_reducible refine And.intro ?_ ?_);focus exact yI))):G:=e ⟨trivial⟩
def callP.c{P:Program}{K:PS->Prop}{d:Option Nat}{s:PS}{o:Prop}{f:FuncId}{j:List PV}{r:PV}(h:Cn P f j r)(k:o)(u:zY j=true:=by exact rfl)(e:Hd o->K (s.put d r):=by intro w;(try simp (maxSteps:=2000000) (disch:=omega) only[go_sem,seval]);(repeat ((with_reducible refine And.intro ?_ ?_);focus exact yI));exact w.h):callP P f j K d s:=.mk h u (e ⟨k⟩)
def callQ.c{P:Program}{K:PS->Prop}{d:Option Nat}{s:PS}{o:Prop}{f:FuncId}{j:List PV}{r:PV}(h:Cn P f j r)(k:o)(u:zY j=true:=by exact rfl)(e:Hd o->K (s.put d r.strip):=by intro w;(try simp (maxSteps:=2000000) (disch:=omega) only[go_sem,seval]);(repeat ((with_reducible refine And.intro ?_ ?_);focus exact yI));exact w.h):callQ P f j K d s:=.mk h u (e ⟨k⟩)
def callO.c{P:Program}{K:PS->Prop}{d:Option Nat}{s:PS}{n A:Nat}{o:Prop}{f:FuncId}{u:List (List PV)}{j:List PV}{r:PV}(h:Cn P f (.sl u .sh::j) r)(k:o)(w:zY j=true:=by exact rfl)(e:Hd o->K (s.put d r):=by intro y;(try simp (maxSteps:=2000000) (disch:=omega) only[go_sem,seval]);(repeat ((with_reducible refine And.intro ?_ ?_);focus exact yI));exact y.h):callO P f u n A j K d s:=.rd h w (e ⟨k⟩)
def callP.d{P:Program}{K:PS->Prop}{d:Option Nat}{s:PS}{f:FuncId}{j:List PV}{r:PV}(h:Cn P f j r)(o:zY j=true:=by exact rfl)(e:Hd True->K (s.put d r):=by intro u;(try simp (maxSteps:=2000000) (disch:=omega) only[go_sem,seval]);(repeat ((with_reducible refine And.intro ?_ ?_);focus exact yI))):callP P f j K d s:=.mk h o (e ⟨trivial⟩)
def callQ.d{P:Program}{K:PS->Prop}{d:Option Nat}{s:PS}{f:FuncId}{j:List PV}{r:PV}(h:Cn P f j r)(o:zY j=true:=by exact rfl)(e:Hd True->K (s.put d r.strip):=by intro u;(try simp (maxSteps:=2000000) (disch:=omega) only[go_sem,seval]);(repeat ((with_reducible refine And.intro ?_ ?_);focus exact yI))):callQ P f j K d s:=.mk h o (e ⟨trivial⟩)
def callO.d{P:Program}{K:PS->Prop}{d:Option Nat}{s:PS}{n w:Nat}{f:FuncId}{o:List (List PV)}{j:List PV}{r:PV}(h:Cn P f (.sl o .sh::j) r)(u:zY j=true:=by exact rfl)(e:Hd True->K (s.put d r):=by intro y;(try simp (maxSteps:=2000000) (disch:=omega) only[go_sem,seval]);(repeat ((with_reducible refine And.intro ?_ ?_);focus exact yI))):callO P f o n w j K d s:=.rd h u (e ⟨trivial⟩)
def callP.rd{P:Program}{K:PS->Prop}{d:Option Nat}{s:PS}{f:FuncId}{j:List PV}{r:PV}(h:Cn P f j r)(o:zY j=true)(hk:K (s.put d r)):callP P f j K d s:=.mk h o hk
def callQ.rd{P:Program}{K:PS->Prop}{d:Option Nat}{s:PS}{f:FuncId}{j:List PV}{r:PV}(h:Cn P f j r)(o:zY j=true)(hk:K (s.put d r.strip)):callQ P f j K d s:=.mk h o hk
def zwT{c:Bool}{p q:Prop}(e:(c=true->Hd p)/\(c=false->Hd q):=by refine⟨?_,?_⟩<;>intro h_<;>(try simp only[zb]at h_)<;>exact⟨h_⟩):(c=true->Hd p)/\(c=false->Hd q):=e
def brP.i{s:PS}{c:Bool}{X Y:PS->Prop}{p q:Prop}(j:p->X s)(o:q->Y s)(e:(c=true->Hd p)/\(c=false->Hd q):=by exact zwT):brP (.v (.bool c)) X Y s:=.mk (λh=>j (e.1 h).h) λh=>o (e.2 h).h
def gdP.i{s:PS}{d:Option Nat}{c b:Bool}{i:Nat}{X Y:PS->Prop}{p q:Prop}(j:p->(match b with|true=>X (s.put (some i) (.v (.bool true)))|false=>Y ((s.put (some i) (.v (.bool true))).put d (.v undef))))(o:q->(match b with|true=>Y ((s.put (some i) (.v (.bool false))).put d (.v undef))|false=>X (s.put (some i) (.v (.bool false)))))(e:(c=true->Hd p)/\(c=false->Hd q):=by exact zwT):gdP (.v (.bool c)) i b d X Y s:=by
 cases b with
 |true=>exact .mkt (λh=>j (e.1 h).h) λh=>o (e.2 h).h
 |false=>exact .mkf (λh=>j (e.1 h).h) λh=>o (e.2 h).h
def zt{P:Program}{f:FuncId}{fn:Func}(y:P.funcs[f]?=some fn){j:List PV}{r:PV}(n:Nat){w:Prop}(k:w)(o:zbo P fn [] n=true:=by kernel_rfl)(A:j.length=n:=by exact rfl)(u:∀p∈j,p.own=none:=by simp[go_sem,seval])(e:Hd w->pW P fn.ntmps True (zbt P fn []) (jG (zgk P fn) r) ⟨qQ 0 j,[]⟩:=by intro B;(conv=>arg 4;cbv);(conv=>enter [5,1];cbv);exact B.h):Cn P f j r:=zgM y [] n o A u (e ⟨k⟩)
end
end Go.Proofs.YtmpnbdhadjfbhaaGreatDoor
