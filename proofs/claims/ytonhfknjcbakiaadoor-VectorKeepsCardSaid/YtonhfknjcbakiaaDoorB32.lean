import Derived.Test.YtonhfknjcbakiaaDoorB18
import Derived.Test.YtonhfknjcbakiaaDoorB19
import Derived.Test.YtonhfknjcbakiaaDoorB30
import Derived.Test.YtonhfknjcbakiaaDoorB31
set_option linter.unusedVariables false
set_option linter.unusedSimpArgs false
set_option maxRecDepth 100000
namespace Go.Proofs.YtonhfknjcbakiaaDoor
open Go.RowKit
def us (l:List Nat):PV:=.sl (l.map yN) .sh
attribute [go_sem] us
end Go.Proofs.YtonhfknjcbakiaaDoor
namespace Go.Proofs.YtonhfknjcbakiaaDoor
open Go.RowKit Go.Maps
attribute [-go_sem] z7
theorem jP {f:FuncId} {ps:List PV} {r:PV} (h:Cn Tryd.prog f ps r) {D:Nat->Nat->Prop} {w:World} {vs:Array Value} (hG:GL D w) (hD:∀ b o,D b o->b<w.heap.size) (hsz:vs.size=ps.length) (hd:∀(i:Nat) p,ps[i]? = some p->Dat D w (vs.getD i undef) p) :
 Calls Tryd.prog f vs w fun e w'=>∃ v,e=.returned v/\Below w.heap.size w w'/\Dat (fun b o=>D b o\/(w.heap.size<=b/\b<w'.heap.size)) w' v r:=by
 refine(h.2 D w vs hG hD hsz hd).mono ?_
 rintro e w' ⟨v,D',rfl,hb,_,q2,q3,hd,_⟩
 exact⟨v,rfl,hb,hd.mono (fun b o h=>(q2 b o h).imp id fun h'=>⟨h',q3 b o h⟩) fun _ _ _ _ h=>h⟩
theorem OwnU.keep {base:Nat} {w w':World} {v:Value} {l:List Nat} (h:OwnU base w v l) (hb:∀ g,v.ownBlock=some g->w'.heap[g]? = w.heap[g]?):OwnU base w' v l:=by
 refine⟨h.1,?_⟩
 rcases h.2 with h | ⟨g,cap,cur,e,hg,hc,r⟩
 ·exact .inl h
 ·exact .inr ⟨g,cap,cur,e,hg,(hb g (by rw [e];rfl)).trans hc,r⟩
theorem OwnU.lt {base:Nat} {w:World} {v:Value} {l:List Nat} (h:OwnU base w v l):∀ g,v.ownBlock=some g->base<=g/\g<w.heap.size:=fun g hg=>World.ownsRow.lt h g hg
theorem yD {w w':World} {b r n YV:Nat} {D:DV} {left:Lit->Bool} (h:w.ranges Tryd.prog 28 rV b r n D left YV) (hb:w'.heap[b]? = w.heap[b]?) (hr:w'.heap[r]? = w.heap[r]?):w'.ranges Tryd.prog 28 rV b r n D left YV:=by
 obtain⟨es,clock,since,seen,c0,h1,F,hs,hD,h2,rest⟩:=h
 exact⟨es,clock,since,seen,c0,hb.trans h1,F,hs,hD,hr.trans h2,rest⟩
theorem QM {left:Lit->Bool} {r x:Nat}:(left (kR r) && !(kR r).sameKey (kR x))=false ↔ left (kR r)=false\/r=x:=by
 have h:(kR r).sameKey (kR x)=decide (r=x):=by
  simp [kR,Lit.sameKey]
  omega
 rw [h]
 cases left (kR r)<;>simp
theorem OwnU.shape {base:Nat} {w:World} {v:Value} {l:List Nat} (h:OwnU base w v l):∃ ad cap,v=.slice ad l.length cap/\l.length<=cap/\cap<=maxLen/\(l≠[]->∃ g,ad=some ⟨g,0,none⟩/\g<w.heap.size/\∀ j (hj:j<l.length),w.cell? ⟨g,j,none⟩=some (.int .u64 (l[j]:Nat))):=by
 rcases h.cases with⟨rfl,rfl⟩ | ⟨g,cap,cur,rfl,h1,h2,h3,h4,h5,h6,h7⟩
 ·exact⟨none,0,rfl,Nat.le_refl _,Nat.zero_le _,fun h=>absurd rfl h⟩
 ·refine⟨_,cap,rfl,h4,h5,fun _=>⟨g,rfl,h2,fun j hj=>?_⟩⟩
  have:=World.ownsRow.cells h (g:=g) rfl j (uV l[j]) (by rw [List.getElem?_map,List.getElem?_eq_getElem hj];rfl)
  rw [zh,Nat.zero_add] at this
  exact this
theorem Zi {P:Program} {w:World} {o:Oper} {a:Act} {K:Act->World->Prop} {Q:Exit->Act->World->Prop} (s x:Operand) (t:TypeId)
 (ho:o.op=.call { callee:=.builtin .append,args:=#[s,x],argTypes:=#[t,t] })
 (base:Nat) (e:TypeId) (i:TypeInfo) (z:Value) (size bytes:Nat) (ht:P.underlying t=some (.slice e)) (hi:P.info? e=some i) (hz:i.zero=some z)
 (hsize:i.size=size) (hby:i.bytes=bytes) (hzs:z.cells.size=size) (hsz:0<size)
 (v:Value) (n:Nat) (xs:List Value) (hs:a.eval s=v) (hown:w.ownsRow base e size v n xs)
 (ad:Addr) (m c:Nat) (news:List Value) (hx:a.eval x=.slice (some ad) m c) (hl:news.length=m * size) (hnews:∀ j u,news[j]? = some u->w.cell? (ad.add j)=some u) (h1:∀ u ∈ news,u.oneCell'=true)
 (h63:n+m<=maxLen) (hbytes:(n+m) * bytes<=140737488355328) (hbase:base<=w.heap.size)
 (h:∀ v' w',w'.ownsRow base e size v' (n+m) (xs++news)->w.grownBy w' v.ownBlock->(v'=.slice none 0 0 ↔ v=.slice none 0 0/\m=0)->(v'.ownBlock=v.ownBlock\/v'.ownBlock=some w.heap.size)->K (a.put o.dst v') w') :
 o.wp P a w K Q:=by
 obtain⟨v',w',hr,h2,h3,h4,h5⟩:=run_append_own_at (P:=P) w base t o.type e i z size bytes ht hi hz hsize hby hzs hsz v n xs hown ad m c news hl hnews h1 h63 hbytes hbase
 unfold Oper.wp execOp
 simp only [ho,resolve,invoke,builtin,Sem.run_bind,Sem.run_pure,Result.andThen_ok,List.map_toArray,List.map_cons,List.map_nil,hs,hx,hr]
 exact h v' w' h2 h3 h4 h5
end Go.Proofs.YtonhfknjcbakiaaDoor
