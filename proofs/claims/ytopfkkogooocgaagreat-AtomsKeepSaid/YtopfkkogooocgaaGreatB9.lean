import Derived.RangeFuncNested
import Derived.Shelf.Abstract
import Derived.Shelf.RegionOpen
import Derived.WalkKit
import Derived.Laws.AppendOwn
import Derived.Lib.Hide
import Derived.Test.YtopfkkogooocgaaGreatB2
import Derived.Test.YtopfkkogooocgaaGreatB8
set_option linter.unusedVariables false
set_option linter.unusedSimpArgs false
namespace Go.Proofs.YtopfkkogooocgaaGreat
open Go.RowKit
inductive Ow where
 | sh
 | z
 | n (sz:Nat)
 | p (i:Nat)
 | r (n sz:Nat)
inductive PV where
 | v (x:Value)
 | agg (cs:List PV)
 | tup (cs:List PV)
 | sl (es:List (List PV)) (o:Ow)
 | cp (cs:List PV) (o:Nat)
 | bx (i o:Nat)
 | fn (f:Fn) (fs cs:List PV)
 | ifc (t:TypeId) (x:PV)
 | und
inductive Dat (D:Nat->Nat->Prop) (w:World):Value->PV->Prop where
 | v (x:Value):Dat D w x (.v x)
 | und (x:Value):Dat D w x .und
 | agg (vs:Array Value) (cs:List PV) (hs:vs.size=cs.length) (h1:∀ i,i<cs.length->(vs.getD i undef).oneCell'=true) (h:∀(i:Nat) (p:PV),cs[i]? = some p->Dat D w (vs.getD i undef) p):Dat D w (.agg vs) (.agg cs)
 | tup (vs:Array Value) (cs:List PV) (hs:vs.size=cs.length) (h:∀(i:Nat) (p:PV),cs[i]? = some p->Dat D w (vs.getD i undef) p):Dat D w (.tuple vs) (.tup cs)
 | fn (f:Fn) (va vb:Array Value) (fs cs:List PV) (h1:va.size=fs.length) (h2:vb.size=cs.length) (h3:∀(i:Nat) (p:PV),fs[i]? = some p->Dat D w (va.getD i undef) p) (h4:∀(i:Nat) (p:PV),cs[i]? = some p->Dat D w (vb.getD i undef) p):Dat D w (.func f va vb) (.fn f fs cs)
 | ifc (t:TypeId) (x:Value) (p:PV) (h:Dat D w x p):Dat D w (.iface t x) (.ifc t p)
 | sl (a:Option Addr) (cap sz:Nat) (es:List (List PV)) (o:Ow) (b off:Nat) (u:Nat->Value) (hc:es.length<=cap) (hz:o=.z->cap=es.length) (hm:cap<=maxLen) (ha:es≠[]->a=some ⟨b,off,none⟩)
    (hsz:∀(i:Nat) (e:List PV),es[i]? = some e->e.length=sz) (hD:∀ j,j<es.length * sz->D b (off+j)/\w.cell? ⟨b,off+j,none⟩=some (u j)/\(u j).oneCell'=true)
    (h:∀(i:Nat) (e:List PV) (j:Nat) (p:PV),es[i]? = some e->e[j]? = some p->Dat D w (u (i * sz+j)) p):Dat D w (.slice a es.length cap) (.sl es o)
 | cp (b off:Nat) (cs:List PV) (o:Nat) (u:Nat->Value) (hD:∀ j,j<cs.length->D b (off+j)/\w.cell? ⟨b,off+j,none⟩=some (u j)/\(u j).oneCell'=true)
    (h:∀(j:Nat) (p:PV),cs[j]? = some p->Dat D w (u j) p):Dat D w (.pointer (some ⟨b,off+o,none⟩)) (.cp cs o)
theorem Dat.mono {D D':Nat->Nat->Prop} {w w':World} {x:Value} {p:PV} (h:Dat D w x p) (hD:∀ b o,D b o->D' b o) (hw:∀ b o x,D b o->w.cell? ⟨b,o,none⟩=some x->w'.cell? ⟨b,o,none⟩=some x):Dat D' w' x p:=by
 induction h with
 | v x=>exact .v x
 | und x=>exact .und x
 | agg vs cs hs h1 _ ih=>exact .agg vs cs hs h1 ih
 | tup vs cs hs _ ih=>exact .tup vs cs hs ih
 | fn f va vb fs cs h1 h2 _ _ ih1 ih2=>exact .fn f va vb fs cs h1 h2 ih1 ih2
 | ifc t x p _ ih=>exact .ifc t x p ih
 | sl a cap sz es o b off u hc hz hm ha hsz hd _ ih=>exact .sl a cap sz es o b off u hc hz hm ha hsz (fun j hj=>⟨hD _ _ (hd j hj).1,hw _ _ _ (hd j hj).1 (hd j hj).2.1,(hd j hj).2.2⟩) ih
 | cp b off cs o u hd _ ih=>exact .cp b off cs o u (fun j hj=>⟨hD _ _ (hd j hj).1,hw _ _ _ (hd j hj).1 (hd j hj).2.1,(hd j hj).2.2⟩) ih
def Rel1 (D:Nat->Nat->Prop) (ρ:Nat->Nat) (nb:Nat) (w:World) (x:Value) (p:PV):Prop:=
 Dat D w x p\/∃ i o,p=.bx i o/\i<nb/\x=.pointer (some ⟨ρ i,o,none⟩)
def Rel (D:Nat->Nat->Prop) (ρ:Nat->Nat) (nb:Nat) (w:World) (x:Value) (p:PV):Prop:=
 Rel1 D ρ nb w x p\/∃ f va vb fs cs,p=.fn f fs cs/\x=.func f va vb/\va.size=fs.length/\vb.size=cs.length/\(∀ i q,fs[i]? = some q->Rel1 D ρ nb w (va.getD i undef) q)/\(∀ i q,cs[i]? = some q->Rel1 D ρ nb w (vb.getD i undef) q)
theorem Rel1.mono {D D':Nat->Nat->Prop} {ρ ρ':Nat->Nat} {nb nb':Nat} {w w':World} {x:Value} {p:PV} (h:Rel1 D ρ nb w x p) (hD:∀ b o,D b o->D' b o) (hw:∀ b o x,D b o->w.cell? ⟨b,o,none⟩=some x->w'.cell? ⟨b,o,none⟩=some x)
 (hn:nb<=nb') (hρ:∀ i,i<nb->ρ' i=ρ i):Rel1 D' ρ' nb' w' x p:=by
 rcases h with h | ⟨i,o,rfl,hi,rfl⟩
 ·exact .inl (h.mono hD hw)
 ·exact .inr ⟨i,o,rfl,by omega,by rw [hρ i hi]⟩
theorem Rel.mono {D D':Nat->Nat->Prop} {ρ ρ':Nat->Nat} {nb nb':Nat} {w w':World} {x:Value} {p:PV} (h:Rel D ρ nb w x p) (hD:∀ b o,D b o->D' b o) (hw:∀ b o x,D b o->w.cell? ⟨b,o,none⟩=some x->w'.cell? ⟨b,o,none⟩=some x)
 (hn:nb<=nb') (hρ:∀ i,i<nb->ρ' i=ρ i):Rel D' ρ' nb' w' x p:=by
 rcases h with h | ⟨f,va,vb,fs,cs,rfl,rfl,h1,h2,h3,h4⟩
 ·exact .inl (h.mono hD hw hn hρ)
 ·exact .inr ⟨f,va,vb,fs,cs,rfl,rfl,h1,h2,fun i q hq=>(h3 i q hq).mono hD hw hn hρ,fun i q hq=>(h4 i q hq).mono hD hw hn hρ⟩
theorem Rel.dat {D:Nat->Nat->Prop} {ρ:Nat->Nat} {nb:Nat} {w:World} {x:Value} {p:PV} (h:Dat D w x p):Rel D ρ nb w x p:=.inl (.inl h)
def PV.own:PV->Option Nat
 | .sl _ (.r n _)=>some n
 | _=>none
def PV.isB:PV->Bool
 | .bx _ _=>true
 | _=>false
def PV.isD:PV->Bool
 | .bx _ _=>false
 | .fn _ fs cs=>fs.all (fun p=>!p.isB) && cs.all (fun p=>!p.isB)
 | _=>true
def PV.strip:PV->PV
 | .sl es (.r _ _)=>.sl es .sh
 | .sl es (.n _)=>.sl es .sh
 | .sl es (.p _)=>.sl es .sh
 | p=>p
def PV.sh:PV->PV
 | .sl es _=>.sl es .sh
 | p=>p
theorem PV.strip_own (p:PV):p.strip.own=none:=by
 cases p<;>try rfl
 rename_i o;cases o<;>rfl
def PV.isN:PV->Bool
 | .sl _ (.n _)=>true
 | .sl _ (.p _)=>true
 | _=>false
theorem PV.strip_isN (p:PV):p.strip.isN=false:=by
 cases p<;>try rfl
 rename_i o;cases o<;>rfl
def NewOk (x0:Nat->Value) (n0:Nat) (w:World) (x:Value):PV->Prop
 | .sl es (.p i)=>∃ ad len cap,x0 i=.slice ad len cap/\x=.slice ad es.length cap
 | .sl es (.n sz)=>(∃ ad,x=.slice ad es.length es.length)\/∃ g cap cur e,n0<=g/\x=.slice (some ⟨g,0,none⟩) es.length cap/\w.heap[g]? = some (.cells cur e (0,0))/\cur.size=cap * sz
 | _=>True
theorem xA {x0:Nat->Value} {n0:Nat} {w:World} {x:Value} {p:PV} (h:p.isN=false):NewOk x0 n0 w x p:=by
 cases p<;>try trivial
 rename_i o;cases o<;>first | trivial | cases h
theorem NewOk.mono {x0:Nat->Value} {n0 n1:Nat} {w w':World} {x:Value} {p:PV} (h:NewOk x0 n0 w x p) (hn:n1<=n0) (hw:∀ k,k<w.heap.size->w'.heap[k]? = w.heap[k]?):NewOk x0 n1 w' x p:=by
 cases p<;>try trivial
 rename_i es o;cases o<;>first | exact h | skip
 rcases h with h | ⟨g,cap,cur,e,h1,h2,h3,h4⟩
 ·exact .inl h
 ·exact .inr ⟨g,cap,cur,e,by omega,h2,(hw g (Array.getElem?_eq_some_iff.1 h3).1).trans h3,h4⟩
theorem Dat.strip {D:Nat->Nat->Prop} {w:World} {x:Value} {p:PV} (h:Dat D w x p):Dat D w x p.strip:=by
 cases h with
 | sl a cap sz es o b off u hc hz hm ha hsz hD h=>
   cases o with
   | sh=>exact .sl a cap sz es _ b off u hc hz hm ha hsz hD h
   | z=>exact .sl a cap sz es _ b off u hc hz hm ha hsz hD h
   | n m=>exact .sl a cap sz es _ b off u hc (fun h=>by cases h) hm ha hsz hD h
   | p m=>exact .sl a cap sz es _ b off u hc (fun h=>by cases h) hm ha hsz hD h
   | r n m=>exact .sl a cap sz es _ b off u hc (fun h=>by cases h) hm ha hsz hD h
 | v x=>exact .v x
 | und x=>exact .und x
 | agg vs cs hs h1 h=>exact .agg vs cs hs h1 h
 | tup vs cs hs h=>exact .tup vs cs hs h
 | fn f va vb fs cs h1 h2 h3 h4=>exact .fn f va vb fs cs h1 h2 h3 h4
 | ifc t x p h=>exact .ifc t x p h
 | cp b off cs o u hD h=>exact .cp b off cs o u hD h
theorem Dat.sh {D:Nat->Nat->Prop} {w:World} {x:Value} {p:PV} (h:Dat D w x p):Dat D w x p.sh:=by
 cases h with
 | sl a cap sz es o b off u hc hz hm ha hsz hD h=>exact .sl a cap sz es _ b off u hc (fun h=>by cases h) hm ha hsz hD h
 | v x=>exact .v x
 | und x=>exact .und x
 | agg vs cs hs h1 h=>exact .agg vs cs hs h1 h
 | tup vs cs hs h=>exact .tup vs cs hs h
 | fn f va vb fs cs h1 h2 h3 h4=>exact .fn f va vb fs cs h1 h2 h3 h4
 | ifc t x p h=>exact .ifc t x p h
 | cp b off cs o u hD h=>exact .cp b off cs o u hD h
theorem Dat.owned {D:Nat->Nat->Prop} {w:World} {x:Value} {es:List (List PV)} {k:Ow} (h:Dat D w x (.sl es k)) (n m:Nat):Dat D w x (.sl es (.r n m)):=by
 cases h with
 | sl a cap sz es o b off u hc hz hm ha hsz hD h=>exact .sl a cap sz es _ b off u hc (fun h=>by cases h) hm ha hsz hD h
theorem PV.sh_own (p:PV):p.sh.own=none:=by cases p<;>rfl
theorem PV.sh_isD (p:PV):p.sh.isD=p.isD:=by cases p<;>rfl
theorem Rel1.strip {D:Nat->Nat->Prop} {ρ:Nat->Nat} {nb:Nat} {w:World} {x:Value} {p:PV} (h:Rel1 D ρ nb w x p):Rel1 D ρ nb w x p.strip:=by
 rcases h with h | ⟨i,o,rfl,hi,rfl⟩
 ·exact .inl h.strip
 ·exact .inr ⟨i,o,rfl,hi,rfl⟩
theorem Rel.strip {D:Nat->Nat->Prop} {ρ:Nat->Nat} {nb:Nat} {w:World} {x:Value} {p:PV} (h:Rel D ρ nb w x p):Rel D ρ nb w x p.strip:=by
 rcases h with h | ⟨f,va,vb,fs,cs,rfl,h⟩
 ·exact .inl h.strip
 ·exact .inr ⟨f,va,vb,fs,cs,rfl,h⟩
def yW (D:Nat->Nat->Prop) (W:Nat->Prop) (w:World) (x:Value):PV->Prop
 | .sl es (.r _ sz)=>(∃ a,x=.slice a 0 0/\es=[])\/∃ g cap cur e,x=.slice (some ⟨g,0,none⟩) es.length cap/\W g/\w.heap[g]? = some (.cells cur e (0,0))/\cur.size=cap * sz/\(∀ e ∈ es,e.length=sz)/\∀ o,es.length * sz<=o->¬ D g o
 | _=>True
theorem zr {D:Nat->Nat->Prop} {W:Nat->Prop} {w:World} {x:Value} {p:PV} (h:p.own=none):yW D W w x p:=by
 cases p<;>try trivial
 rename_i o;cases o<;>first | trivial | cases h
def zc:Value->Option Nat
 | .slice (some a) _ (_+1)=>some a.block
 | _=>Option.none
theorem Dat.restrict {D:Nat->Nat->Prop} {w:World} {x:Value} {p:PV} (h:Dat D w x p):Dat (fun b o=>D b o/\b<w.heap.size) w x p:=by
 induction h with
 | v x=>exact .v x
 | und x=>exact .und x
 | agg vs cs hs h1 _ ih=>exact .agg vs cs hs h1 ih
 | tup vs cs hs _ ih=>exact .tup vs cs hs ih
 | fn f va vb fs cs h1 h2 _ _ ih1 ih2=>exact .fn f va vb fs cs h1 h2 ih1 ih2
 | ifc t x p _ ih=>exact .ifc t x p ih
 | sl a cap sz es o b off u hc hz hm ha hsz hd _ ih=>exact .sl a cap sz es o b off u hc hz hm ha hsz (fun j hj=>⟨⟨(hd j hj).1,World.block_lt_of_cell? w ⟨b,off+j,_⟩ (hd j hj).2.1⟩,(hd j hj).2⟩) ih
 | cp b off cs o u hd _ ih=>exact .cp b off cs o u (fun j hj=>⟨⟨(hd j hj).1,World.block_lt_of_cell? w ⟨b,off+j,_⟩ (hd j hj).2.1⟩,(hd j hj).2⟩) ih
theorem Rel1.restrict {D:Nat->Nat->Prop} {ρ:Nat->Nat} {nb:Nat} {w:World} {x:Value} {p:PV} (h:Rel1 D ρ nb w x p):Rel1 (fun b o=>D b o/\b<w.heap.size) ρ nb w x p:=by
 rcases h with h | h
 ·exact .inl h.restrict
 ·exact .inr h
theorem Rel.restrict {D:Nat->Nat->Prop} {ρ:Nat->Nat} {nb:Nat} {w:World} {x:Value} {p:PV} (h:Rel D ρ nb w x p):Rel (fun b o=>D b o/\b<w.heap.size) ρ nb w x p:=by
 rcases h with h | ⟨f,va,vb,fs,cs,h1,h2,h3,h4,h5,h6⟩
 ·exact .inl h.restrict
 ·exact .inr ⟨f,va,vb,fs,cs,h1,h2,h3,h4,fun i q hq=>(h5 i q hq).restrict,fun i q hq=>(h6 i q hq).restrict⟩
theorem Dat.isD {D:Nat->Nat->Prop} {w:World} {x:Value} {p:PV} (h:Dat D w x p):p.isD=true:=by
 have hB:∀ {x p},Dat D w x p->p.isB=false:=fun h=>by cases h<;>rfl
 cases h<;>try rfl
 rename_i f va vb fs cs h1 h2 h3 h4
 simp only [PV.isD,Bool.and_eq_true,List.all_eq_true,Bool.not_eq_true']
 exact⟨fun p hp=>by obtain⟨i,hi⟩:=List.getElem?_of_mem hp;exact hB (h3 i p hi),fun p hp=>by obtain⟨i,hi⟩:=List.getElem?_of_mem hp;exact hB (h4 i p hi)⟩
theorem Rel1.data {D:Nat->Nat->Prop} {ρ:Nat->Nat} {nb:Nat} {w:World} {x:Value} {p:PV} (h:Rel1 D ρ nb w x p) (hd:p.isB=false):Dat D w x p:=by
 rcases h with h | ⟨i,o,rfl,_⟩
 ·exact h
 ·cases hd
theorem Rel.data {D:Nat->Nat->Prop} {ρ:Nat->Nat} {nb:Nat} {w:World} {x:Value} {p:PV} (h:Rel D ρ nb w x p) (hd:p.isD=true):Dat D w x p:=by
 rcases h with h | ⟨f,va,vb,fs,cs,rfl,rfl,h3,h4,h5,h6⟩
 ·rcases h with h | ⟨i,o,rfl,_⟩
  ·exact h
  ·cases hd
 ·simp only [PV.isD,Bool.and_eq_true,List.all_eq_true,Bool.not_eq_true'] at hd
  exact .fn f va vb fs cs h3 h4 (fun i q hq=>(h5 i q hq).data (hd.1 q (List.mem_of_getElem? hq))) (fun i q hq=>(h6 i q hq).data (hd.2 q (List.mem_of_getElem? hq)))
theorem Rel.v_inv {D:Nat->Nat->Prop} {ρ:Nat->Nat} {nb:Nat} {w:World} {x y:Value} (h:Rel D ρ nb w x (.v y)):x=y:=by
 rcases h with(h | ⟨i,o,h,_⟩) | ⟨f,va,vb,fs,cs,h,_⟩
 ·cases h;rfl
 ·cases h
 ·cases h
def PV.pre (i:Nat):PV->PV
 | .sl es (.r _ _)=>.sl es (.p i)
 | p=>p.strip
theorem PV.pre_or (i:Nat) (p:PV):p.pre i=p.strip\/∃ es n m,p=.sl es (.r n m)/\p.pre i=.sl es (.p i):=by
 cases p<;>try exact .inl rfl
 rename_i es o;cases o<;>first | exact .inl rfl | exact .inr ⟨_,_,_,rfl,rfl⟩
def PV.clean:PV->PV
 | .sl es (.n _)=>.sl es .sh
 | .sl es (.p _)=>.sl es .sh
 | p=>p
theorem PV.clean_or (p:PV):p.clean=p.strip\/p.clean=p:=by
 cases p<;>try exact .inr rfl
 rename_i es o;cases o<;>first | exact .inl rfl | exact .inr rfl
theorem PV.clean_isN (p:PV):p.clean.isN=false:=by
 cases p<;>try rfl
 rename_i es o;cases o<;>rfl
end Go.Proofs.YtopfkkogooocgaaGreat
namespace Go.Proofs.YtopfkkogooocgaaGreat
open Go.RowKit
structure PS where
 t:List (Nat × PV)
 b:List (List PV)
def yr:List (Nat × PV)->Nat->PV
 | [],_=>.und
 | (j,p)::r,i=>if j=i then p else yr r i
def PS.get (s:PS) (i:Nat):PV:=yr s.t i
def PS.put (s:PS) (d:Option Nat) (p:PV):PS:=match d with | some d=>⟨(d,p)::s.t,s.b⟩ | none=>s
structure Gh where
 D:Nat->Nat->Prop
 ρ:Nat->Nat
structure Bs where
 w0:World
 D0:Nat->Nat->Prop
 Sb:Nat->Prop
 gl:GL D0 w0
 df:List Deferred
def Bs.W (B:Bs) (k:Nat):Prop:=B.w0.heap.size<=k\/B.Sb k
structure Fr (B:Bs) (D:Nat->Nat->Prop) (w:World):Prop where
 os:w.os=B.w0.os
 tape:w.tape=B.w0.tape
 output:w.output=B.w0.output
 size:B.w0.heap.size<=w.heap.size
 block:∀ k,k<B.w0.heap.size->¬ B.Sb k->w.heap[k]? = B.w0.heap[k]?
 d0:∀ b o,B.D0 b o->D b o
 cell:∀ b o x,B.D0 b o->B.w0.cell? ⟨b,o,none⟩=some x->w.cell? ⟨b,o,none⟩=some x
 new:∀ b o,D b o->B.D0 b o\/B.W b
 d0lt:∀ b o,B.D0 b o->b<B.w0.heap.size
def zaA (g:Gh) (nb:Nat) (w:World) (i:Nat) (cs:List PV):Prop:=
 ∃ vs e,w.heap[g.ρ i]? = some (.cells vs e (0,0))/\vs.size=cs.length/\∀(j:Nat) (p:PV),cs[j]? = some p->Rel g.D g.ρ nb w (vs.getD j undef) p/\(vs.getD j undef).oneCell'=true
def zQ (g:Gh) (s:PS) (x:Nat->Value) (w:World) (u:Value) (p:PV):Prop:=
 (∃ t,u=x t/\p=s.get t)\/(∃(i j:Nat) (cs:List PV),s.b[i]? = some cs/\cs[j]? = some p/\w.cell? ⟨g.ρ i,j,none⟩=some u)
structure R (B:Bs) (g:Gh) (s:PS) (x:Nat->Value) (w:World):Prop where
 slots:∀ t,Rel g.D g.ρ s.b.length w (x t) (s.get t)
 boxes:∀(i:Nat) cs,s.b[i]? = some cs->B.W (g.ρ i)/\zaA g s.b.length w i cs
 inj:∀ i j,i<s.b.length->j<s.b.length->g.ρ i=g.ρ j->i=j
 owns:∀ u p,zQ g s x w u p->yW g.D B.W w u p
 disj:∀ u p u' p' b,zQ g s x w u p->zQ g s x w u' p'->p.own≠none->p'.own≠none->zc u=some b->zc u'=some b->p.own=p'.own
 ownbox:∀ u p b i,zQ g s x w u p->p.own≠none->zc u=some b->i<s.b.length->g.ρ i≠b
 dlt:∀ b o,g.D b o->b<w.heap.size
 dbox:∀ i,i<s.b.length->∀ o,¬ g.D (g.ρ i) o
 fr:Fr B g.D w
theorem qa {n:Nat} {w w':World} (h:Below n w w') {b o:Nat} {x:Value} (hb:b<n) (hx:w.cell? ⟨b,o,none⟩=some x):w'.cell? ⟨b,o,none⟩=some x:=(h.cell (p:=⟨b,o,none⟩) hb).trans hx
theorem qF {w:World} {b o:Nat} {x:Value} (hx:w.cell? ⟨b,o,none⟩=some x):b<w.heap.size:=World.block_lt_of_cell? w ⟨b,o,none⟩ hx
def QO (x:Nat->Value) (d:Option Nat) (u:Value):Nat->Value:=fun t=>if d=some t then u else x t
theorem kN (x:Nat->Value) (d:Nat) (u:Value):QO x (some d) u d=u:=by simp [QO]
theorem QP (x:Nat->Value) {d t:Nat} (u:Value) (h:d≠t):QO x (some d) u t=x t:=by simp [QO,h]
theorem zF (s:PS) (d:Nat) (p:PV):(s.put (some d) p).get d=p:=by simp [PS.put,PS.get,yr]
theorem zV (s:PS) {d t:Nat} (p:PV) (h:d≠t):(s.put (some d) p).get t=s.get t:=by simp [PS.put,PS.get,yr,h]
variable {B:Bs} {g:Gh} {s:PS} {x:Nat->Value} {w w':World}
theorem R.gl (h:R B g s x w):GL g.D w:=B.gl.mono h.fr.d0 h.fr.cell
theorem R.slot (h:R B g s x w) (t:Nat):zQ g s x w (x t) (s.get t):=.inl ⟨t,rfl,rfl⟩
theorem R.ρlt (h:R B g s x w) {i:Nat} (hi:i<s.b.length):g.ρ i<w.heap.size:=by
 obtain⟨_,vs,e,hv,_⟩:=h.boxes i _ (List.getElem?_eq_getElem hi)
 exact(Array.getElem?_eq_some_iff.1 hv).1
theorem zX {D:Nat->Nat->Prop} {W:Nat->Prop} {u:Value} {p:PV} {b:Nat} (h:yW D W w u p) (ho:p.own≠none) (hb:zc u=some b):b<w.heap.size/\W b:=by
 cases p<;>try exact absurd rfl ho
 rename_i o
 cases o<;>try exact absurd rfl ho
 rcases h with⟨a,rfl,_⟩ | ⟨gg,cap,cur,e,rfl,hW,hh,_⟩
 ·cases a<;>cases hb
 ·obtain rfl:gg=b:=by cases cap<;>simp [zc] at hb;exact hb
  exact⟨(Array.getElem?_eq_some_iff.1 hh).1,hW⟩
theorem QH {D:Nat->Nat->Prop} {ρ:Nat->Nat} {nb:Nat} {a:Option Addr} {n cap:Nat} {es:List (List PV)} {o:Ow} (h:Rel D ρ nb w (.slice a n cap) (.sl es o)):n<=cap/\n=es.length/\cap<=maxLen:=by
 rcases h with(h | ⟨i,o,h,_⟩) | ⟨f,va,vb,fs,cs,h,_⟩
 ·cases h with
  | sl a cap sz es o b off u hc hz hm ha hsz hD h=>exact⟨hc,rfl,hm⟩
 ·cases h
 ·cases h
theorem R.slot_rel (h:R B g s x w) {u:Value} {p:PV} (hs:zQ g s x w u p):Rel g.D g.ρ s.b.length w u p:=by
 rcases hs with⟨t,rfl,rfl⟩ | ⟨i,j,cs,h4,h5,h6⟩
 ·exact h.slots t
 ·obtain⟨_,vs,e,hv,hsz,hr⟩:=h.boxes i cs h4
  have:=(hr j p h5).1
  simp only [World.cell?,hv] at h6
  simp only [Option.isSome_none,Bool.false_eq_true,if_false] at h6
  rw [Array.getD_eq_getD_getElem?,h6] at this
  exact this
def OwnNew (B:Bs) (g:Gh) (s:PS) (x:Nat->Value) (w:World) (u:Value) (p:PV):Prop:=
 p.own≠none->yW g.D B.W w u p/\(∀ v q b,zQ g s x w v q->q.own≠none->zc v=some b->zc u=some b->q.own=p.own)/\(∀ b i,zc u=some b->i<s.b.length->g.ρ i≠b)
theorem OwnNew.none {u:Value} {p:PV} (h:p.own=none):OwnNew B g s x w u p:=fun h'=>absurd h h'
theorem R.ownNew (h:R B g s x w) {u:Value} {p:PV} (hs:zQ g s x w u p):OwnNew B g s x w u p:=fun ho=>
 ⟨h.owns _ _ hs,fun v q b k1 k2 k3 k4=>h.disj _ _ _ _ b k1 hs k2 ho k3 k4,fun b i k1 k2=>h.ownbox _ _ b i hs ho k1 k2⟩
theorem R.put (h:R B g s x w) (d:Option Nat) {u:Value} {p:PV} (hr:Rel g.D g.ρ s.b.length w u p) (ho:OwnNew B g s x w u p) :
 R B g (s.put d p) (QO x d u) w:=by
 cases d with
 | none=>
   have:QO x none u=x:=by funext t;simp [QO]
   rw [this];exact h
 | some d=>
 have hs:∀ v q,zQ g (s.put (some d) p) (QO x (some d) u) w v q->(v=u/\q=p)\/zQ g s x w v q:=by
  rintro v q (⟨t,rfl,rfl⟩ | hb)
  ·by_cases e:d=t
   ·subst e;exact .inl ⟨kN _ _ _,zF _ _ _⟩
   ·exact .inr (.inl ⟨t,QP _ _ e,zV _ _ e⟩)
  ·exact .inr (.inr hb)
 refine⟨?_,h.boxes,h.inj,?_,?_,?_,h.dlt,h.dbox,h.fr⟩
 ·intro t
  by_cases e:d=t
  ·subst e;rw [kN,zF];exact hr
  ·rw [QP _ _ e,zV _ _ e];exact h.slots t
 ·intro v q hv
  by_cases hq:q.own=none
  ·exact zr hq
  ·rcases hs v q hv with⟨rfl,rfl⟩ | hv
   ·exact(ho hq).1
   ·exact h.owns _ _ hv
 ·intro v q v' q' b h1 h2 o1 o2 b1 b2
  rcases hs v q h1 with⟨rfl,rfl⟩ | k1<;>rcases hs v' q' h2 with⟨rfl,rfl⟩ | k2
  ·rfl
  ·exact((ho o1).2.1 v' q' b k2 o2 b2 b1).symm
  ·exact(ho o2).2.1 v q b k1 o1 b1 b2
  ·exact h.disj _ _ _ _ b k1 k2 o1 o2 b1 b2
 ·intro v q b i hv o1 b1 hi
  rcases hs v q hv with⟨rfl,rfl⟩ | hv
  ·exact(ho o1).2.2 b i b1 hi
  ·exact h.ownbox _ _ b i hv o1 b1 hi
theorem R.frame (h:R B g s x w) (D':Nat->Nat->Prop) (c1:∀ b o y,g.D b o->w.cell? ⟨b,o,none⟩=some y->w'.cell? ⟨b,o,none⟩=some y)
 (c2:∀ i,i<s.b.length->w'.heap[g.ρ i]? = w.heap[g.ρ i]?) (c3:∀ u p b,zQ g s x w u p->p.own≠none->zc u=some b->w'.heap[b]? = w.heap[b]?)
 (d1:∀ b o,g.D b o->D' b o) (d2:∀ b o,D' b o->g.D b o\/(B.W b/\(∀ i,i<s.b.length->g.ρ i≠b)/\∀ u p,zQ g s x w u p->p.own≠none->zc u≠some b)) (d3:∀ b o,D' b o->b<w'.heap.size)
 (e1:w'.os=w.os) (e2:w'.tape=w.tape) (e3:w'.output=w.output) (e4:w.heap.size<=w'.heap.size) (e5:∀ k,k<B.w0.heap.size->¬ B.Sb k->w'.heap[k]? = w.heap[k]?):R B ⟨D',g.ρ⟩ s x w':=by
 have hs:∀ u q,zQ ⟨D',g.ρ⟩ s x w' u q->zQ g s x w u q:=by
  rintro u q (hx | ⟨i,j,cs,h4,h5,h6⟩)
  ·exact .inl hx
  ·exact .inr ⟨i,j,cs,h4,h5,by rw [<-h6];exact(World.cell?_of_block (a:=⟨g.ρ i,j,none⟩) (c2 i (List.getElem?_eq_some_iff.1 h4).1)).symm⟩
 refine⟨fun t=>(h.slots t).mono d1 c1 (Nat.le_refl _) fun _ _=>rfl,?_,h.inj,?_,?_,?_,d3,?_,?_⟩
 ·intro i cs hi
  obtain⟨hW,vs,e,hv,hsz,hr⟩:=h.boxes i cs hi
  exact⟨hW,vs,e,(c2 i (List.getElem?_eq_some_iff.1 hi).1).trans hv,hsz,fun j p hp=>⟨(hr j p hp).1.mono d1 c1 (Nat.le_refl _) fun _ _=>rfl,(hr j p hp).2⟩⟩
 ·intro u q hx
  by_cases hq:q.own=none
  ·exact zr hq
  have hx':=hs u q hx
  have:=h.owns u q hx'
  cases q<;>try trivial
  rename_i es o
  cases o<;>try trivial
  rcases this with hn | ⟨gg,cap,cur,e,rfl,hW,hh,hc,he,hd⟩
  ·exact .inl hn
  ·cases cap with
   | zero=>
     by_cases hes:es=[]
     ·subst hes;exact .inl ⟨_,rfl,rfl⟩
     ·obtain⟨hle,_⟩:=QH (h.slot_rel hx')
      exact absurd (List.eq_nil_of_length_eq_zero (Nat.le_zero.1 hle)) hes
   | succ cap=>
     refine .inr ⟨gg,_,cur,e,rfl,hW,(c3 _ _ gg hx' hq rfl).trans hh,hc,he,fun o ho hD=>?_⟩
     rcases d2 _ _ hD with h' | h'
     ·exact hd o ho h'
     ·exact h'.2.2 _ _ hx' hq rfl
 ·intro u q u' q' b k1 k2
  exact h.disj u q u' q' b (hs _ _ k1) (hs _ _ k2)
 ·intro u q b i k1
  exact h.ownbox u q b i (hs _ _ k1)
 ·intro i hi o hD
  rcases d2 _ _ hD with h' | h'
  ·exact h.dbox i hi o h'
  ·exact h'.2.1 i hi rfl
 ·refine⟨e1.trans h.fr.os,e2.trans h.fr.tape,e3.trans h.fr.output,Nat.le_trans h.fr.size e4,fun k hk hn=>(e5 k hk hn).trans (h.fr.block k hk hn),fun b o hD=>d1 _ _ (h.fr.d0 b o hD),?_,?_,?_⟩
  ·intro b o y hD hy
   exact c1 _ _ _ (h.fr.d0 b o hD) (h.fr.cell b o y hD hy)
  ·intro b o hD
   rcases d2 _ _ hD with h' | h'
   ·exact h.fr.new b o h'
   ·exact .inr h'.1
  ·exact h.fr.d0lt
theorem R.grow (h:R B g s x w) (hb:Below w.heap.size w w') (D':Nat->Nat->Prop) (h1:∀ b o,g.D b o->D' b o)
 (h2:∀ b o,D' b o->g.D b o\/w.heap.size<=b) (h3:∀ b o,D' b o->b<w'.heap.size):R B ⟨D',g.ρ⟩ s x w':=by
 refine h.frame D' (fun b o y _ hy=>qa hb (qF hy) hy) (fun i hi=>hb.block _ (h.ρlt hi)) (fun u p b hu ho hbb=>hb.block _ (zX (h.owns u p hu) ho hbb).1) h1 ?_ h3
  hb.os hb.tape hb.output hb.size fun k hk _=>hb.block k (Nat.lt_of_lt_of_le hk h.fr.size)
 intro b o hD
 rcases h2 b o hD with h' | h'
 ·exact .inl h'
 ·refine .inr ⟨.inl (Nat.le_trans h.fr.size h'),fun i hi e=>?_,fun u p hu ho e=>?_⟩
  ·have:=h.ρlt hi;omega
  ·have:=(zX (h.owns u p hu) ho e).1;omega
theorem R.drew (h:R B g s x w):R B g s x w.drew:=
 h.grow (w':=w.drew) ⟨rfl,rfl,rfl,Nat.le_refl _,fun _ _=>rfl⟩ g.D (fun _ _ h=>h) (fun _ _ h=>.inl h) h.dlt
theorem R.box (h:R B g s x w) (d:Option Nat) (vs:Array Value) (e:TypeId) (cs:List PV) (hsz:vs.size=cs.length)
 (hr:∀(j:Nat) (p:PV),cs[j]? = some p->Rel g.D g.ρ s.b.length w (vs.getD j undef) p/\(vs.getD j undef).oneCell'=true) (ho:∀ p ∈ cs,p.own=none) :
 R B ⟨g.D,fun i=>if i=s.b.length then w.heap.size else g.ρ i⟩ (PS.put ⟨s.t,s.b++[cs]⟩ d (.bx s.b.length 0)) (QO x d (.pointer (some ⟨w.heap.size,0,none⟩))) (w.alloc (.cells vs e)):=by
 have hb:Below w.heap.size w (w.alloc (.cells vs e)):=(Below.refl _ _).alloc (Nat.le_refl _) _
 have h':R B g s x (w.alloc (.cells vs e)):=h.grow hb g.D (fun _ _ h=>h) (fun _ _ h=>.inl h) fun b o hD=>Nat.lt_of_lt_of_le (h.dlt b o hD) hb.size
 obtain⟨ρ',hρ'⟩:∃ ρ',(fun i=>if i=s.b.length then w.heap.size else g.ρ i)=ρ':=⟨_,rfl⟩
 rw [hρ']
 have e1:∀ i,i<s.b.length->ρ' i=g.ρ i:=fun i hi=>by rw [<-hρ'];simp;omega
 have e2:ρ' s.b.length=w.heap.size:=by rw [<-hρ'];simp
 have hcell:∀ b o x,g.D b o->w.cell? ⟨b,o,none⟩=some x->(w.alloc (.cells vs e)).cell? ⟨b,o,none⟩=some x:=fun b o x _ hx=>qa hb (qF hx) hx
 have mono:∀ u p,Rel g.D g.ρ s.b.length (w.alloc (.cells vs e)) u p->Rel g.D ρ' (s.b++[cs]).length (w.alloc (.cells vs e)) u p:=fun u p hu=>hu.mono (fun _ _ h=>h) (fun _ _ _ _ h=>h) (by simp) e1
 have lens:(s.b++[cs]).length=s.b.length+1:=by simp
 have hs:∀ u q,zQ ⟨g.D,ρ'⟩ ⟨s.t,s.b++[cs]⟩ x (w.alloc (.cells vs e)) u q->q.own≠none->zQ g s x (w.alloc (.cells vs e)) u q:=by
  rintro u q (hx | ⟨i,j,cs',h4,h5,h6⟩) hq
  ·exact .inl hx
  ·rcases Nat.lt_or_ge i s.b.length with hi | hi
   ·rw [List.getElem?_append_left hi] at h4
    exact .inr ⟨i,j,cs',h4,h5,by rw [<-h6];show _=World.cell? _ ⟨ρ' i,j,none⟩;rw [e1 i hi]⟩
   ·rw [List.getElem?_append_right hi] at h4
    have hii:i - s.b.length=0:=by
     have:=(List.getElem?_eq_some_iff.1 h4).1
     simp at this;omega
    rw [hii] at h4
    simp at h4
    subst h4
    exact absurd (ho q (List.mem_of_getElem? h5)) hq
 have r1:R B ⟨g.D,ρ'⟩ ⟨s.t,s.b++[cs]⟩ x (w.alloc (.cells vs e)):=by
  refine⟨fun t=>mono _ _ (h'.slots t),?_,?_,?_,?_,?_,h'.dlt,?_,h'.fr⟩
  ·intro i cs' hi
   rcases Nat.lt_or_ge i s.b.length with hl | hl
   ·rw [List.getElem?_append_left hl] at hi
    obtain⟨hW,vs',e',hv,hsz',hr'⟩:=h'.boxes i cs' hi
    refine⟨by show B.W (ρ' i);rw [e1 i hl];exact hW,vs',e',by show _=_;rw [<-hv];show (World.alloc _ _).heap[ρ' i]? = _;rw [e1 i hl],hsz',fun j p hp=>⟨mono _ _ (hr' j p hp).1,(hr' j p hp).2⟩⟩
   ·rw [List.getElem?_append_right hl] at hi
    have hii:i - s.b.length=0:=by
     have:=(List.getElem?_eq_some_iff.1 hi).1
     simp at this;omega
    rw [hii] at hi
    simp at hi
    subst hi
    have:i=s.b.length:=by omega
    subst this
    refine⟨by show B.W (ρ' _);rw [e2];exact .inl h.fr.size,vs,e,?_,hsz,fun j p hp=>⟨mono _ _ ((hr j p hp).1.mono (fun _ _ h=>h) hcell (Nat.le_refl _) fun _ _=>rfl),(hr j p hp).2⟩⟩
    show (World.alloc _ _).heap[ρ' _]? = _
    rw [e2]
    exact World.alloc_heap_new w _
  ·intro i j hi hj hij
   have hi':i<s.b.length+1:=by simpa using hi
   have hj':j<s.b.length+1:=by simpa using hj
   have hij':ρ' i=ρ' j:=hij
   rcases Nat.lt_or_ge i s.b.length with hl | hl<;>rcases Nat.lt_or_ge j s.b.length with hm | hm
   ·rw [e1 i hl,e1 j hm] at hij';exact h'.inj i j hl hm hij'
   ·have:j=s.b.length:=by omega
    rw [e1 i hl,this,e2] at hij';have:=h.ρlt hl;omega
   ·have:i=s.b.length:=by omega
    rw [e1 j hm,this,e2] at hij';have:=h.ρlt hm;omega
   ·omega
  ·intro u q hu
   by_cases hq:q.own=none
   ·exact zr hq
   ·exact h'.owns u q (hs u q hu hq)
  ·intro u q u' q' b k1 k2 o1 o2
   exact h'.disj u q u' q' b (hs _ _ k1 o1) (hs _ _ k2 o2) o1 o2
  ·intro u q b i k1 o1 b1 hi
   have k:=hs _ _ k1 o1
   show ρ' i≠b
   rcases Nat.lt_or_ge i s.b.length with hl | hl
   ·rw [e1 i hl];exact h'.ownbox u q b i k o1 b1 hl
   ·have:i=s.b.length:=by have:i<(s.b++[cs]).length:=hi;simp at this;omega
    rw [this,e2]
    have k0:zQ g s x w u q:=by
     rcases k with hx | ⟨i,j,cs',h4,h5,h6⟩
     ·exact .inl hx
     ·exact .inr ⟨i,j,cs',h4,h5,by rw [<-h6];exact(hb.cell (p:=⟨g.ρ i,j,none⟩) (h.ρlt (List.getElem?_eq_some_iff.1 h4).1)).symm⟩
    have:=(zX (h.owns u q k0) o1 b1).1
    omega
  ·intro i hi o hD
   have hi':i<s.b.length+1:=by have:i<(s.b++[cs]).length:=hi;simpa using this
   have hD':g.D (ρ' i) o:=hD
   rcases Nat.lt_or_ge i s.b.length with hl | hl
   ·rw [e1 i hl] at hD';exact h.dbox i hl o hD'
   ·have:i=s.b.length:=by omega
    rw [this,e2] at hD'
    have:=h.dlt _ _ hD'
    omega
 refine r1.put d (.inl (.inr ⟨s.b.length,0,rfl,by simp,?_⟩)) (.none rfl)
 show _=Value.pointer (some ⟨ρ' s.b.length,0,none⟩)
 rw [e2]
theorem R.boxAt (h:R B g s x w) (d:Option Nat) (vs:Array Value) (e:TypeId) (cs:List PV) (hsz:vs.size=cs.length) {b0:Nat} (hh:w.heap[b0]? = some (.cells vs e (0,0))) (hW:B.W b0) (hne:∀ i,i<s.b.length->g.ρ i≠b0) (hnD:∀ o,¬ g.D b0 o) (hno:∀ u q,zQ g s x w u q->q.own≠none->zc u≠some b0)
 (hr:∀(j:Nat) (p:PV),cs[j]? = some p->Rel g.D g.ρ s.b.length w (vs.getD j undef) p/\(vs.getD j undef).oneCell'=true) (ho:∀ p ∈ cs,p.own=none) :
 R B ⟨g.D,fun i=>if i=s.b.length then b0 else g.ρ i⟩ (PS.put ⟨s.t,s.b++[cs]⟩ d (.bx s.b.length 0)) (QO x d (.pointer (some ⟨b0,0,none⟩))) w:=by
 obtain⟨ρ',hρ'⟩:∃ ρ',(fun i=>if i=s.b.length then b0 else g.ρ i)=ρ':=⟨_,rfl⟩
 rw [hρ']
 have e1:∀ i,i<s.b.length->ρ' i=g.ρ i:=fun i hi=>by rw [<-hρ'];simp;omega
 have e2:ρ' s.b.length=b0:=by rw [<-hρ'];simp
 have mono:∀ u p,Rel g.D g.ρ s.b.length w u p->Rel g.D ρ' (s.b++[cs]).length w u p:=fun u p hu=>hu.mono (fun _ _ h=>h) (fun _ _ _ _ h=>h) (by simp) e1
 have lens:(s.b++[cs]).length=s.b.length+1:=by simp
 have hs:∀ u q,zQ ⟨g.D,ρ'⟩ ⟨s.t,s.b++[cs]⟩ x w u q->q.own≠none->zQ g s x w u q:=by
  rintro u q (hx | ⟨i,j,cs',h4,h5,h6⟩) hq
  ·exact .inl hx
  ·rcases Nat.lt_or_ge i s.b.length with hi | hi
   ·rw [List.getElem?_append_left hi] at h4
    exact .inr ⟨i,j,cs',h4,h5,by rw [<-h6];show _=World.cell? _ ⟨ρ' i,j,none⟩;rw [e1 i hi]⟩
   ·rw [List.getElem?_append_right hi] at h4
    have hii:i - s.b.length=0:=by
     have:=(List.getElem?_eq_some_iff.1 h4).1
     simp at this;omega
    rw [hii] at h4
    simp at h4
    subst h4
    exact absurd (ho q (List.mem_of_getElem? h5)) hq
 have r1:R B ⟨g.D,ρ'⟩ ⟨s.t,s.b++[cs]⟩ x w:=by
  refine⟨fun t=>mono _ _ (h.slots t),?_,?_,?_,?_,?_,h.dlt,?_,h.fr⟩
  ·intro i cs' hi
   rcases Nat.lt_or_ge i s.b.length with hl | hl
   ·rw [List.getElem?_append_left hl] at hi
    obtain⟨hW,vs',e',hv,hsz',hr'⟩:=h.boxes i cs' hi
    refine⟨by show B.W (ρ' i);rw [e1 i hl];exact hW,vs',e',by show _=_;rw [<-hv];show w.heap[ρ' i]? = _;rw [e1 i hl],hsz',fun j p hp=>⟨mono _ _ (hr' j p hp).1,(hr' j p hp).2⟩⟩
   ·rw [List.getElem?_append_right hl] at hi
    have hii:i - s.b.length=0:=by
     have:=(List.getElem?_eq_some_iff.1 hi).1
     simp at this;omega
    rw [hii] at hi
    simp at hi
    subst hi
    have:i=s.b.length:=by omega
    subst this
    refine⟨by show B.W (ρ' _);rw [e2];exact hW,vs,e,?_,hsz,fun j p hp=>⟨mono _ _ (hr j p hp).1,(hr j p hp).2⟩⟩
    show w.heap[ρ' _]? = _
    rw [e2]
    exact hh
  ·intro i j hi hj hij
   have hi':i<s.b.length+1:=by simpa using hi
   have hj':j<s.b.length+1:=by simpa using hj
   have hij':ρ' i=ρ' j:=hij
   rcases Nat.lt_or_ge i s.b.length with hl | hl<;>rcases Nat.lt_or_ge j s.b.length with hm | hm
   ·rw [e1 i hl,e1 j hm] at hij';exact h.inj i j hl hm hij'
   ·have:j=s.b.length:=by omega
    rw [e1 i hl,this,e2] at hij';exact absurd hij' (hne i hl)
   ·have:i=s.b.length:=by omega
    rw [e1 j hm,this,e2] at hij';exact absurd hij'.symm (hne j hm)
   ·omega
  ·intro u q hu
   by_cases hq:q.own=none
   ·exact zr hq
   ·exact h.owns u q (hs u q hu hq)
  ·intro u q u' q' b k1 k2 o1 o2
   exact h.disj u q u' q' b (hs _ _ k1 o1) (hs _ _ k2 o2) o1 o2
  ·intro u q b i k1 o1 b1 hi
   have k:=hs _ _ k1 o1
   show ρ' i≠b
   rcases Nat.lt_or_ge i s.b.length with hl | hl
   ·rw [e1 i hl];exact h.ownbox u q b i k o1 b1 hl
   ·have:i=s.b.length:=by have:i<(s.b++[cs]).length:=hi;simp at this;omega
    rw [this,e2]
    exact fun e3=>hno u q k o1 (by rw [b1,<-e3])
  ·intro i hi o hD
   have hi':i<s.b.length+1:=by have:i<(s.b++[cs]).length:=hi;simpa using this
   have hD':g.D (ρ' i) o:=hD
   rcases Nat.lt_or_ge i s.b.length with hl | hl
   ·rw [e1 i hl] at hD';exact h.dbox i hl o hD'
   ·have:i=s.b.length:=by omega
    rw [this,e2] at hD'
    exact hnD o hD'
 refine r1.put d (.inl (.inr ⟨s.b.length,0,rfl,by simp,?_⟩)) (.none rfl)
 show _=Value.pointer (some ⟨ρ' s.b.length,0,none⟩)
 rw [e2]
def PV.down (n:Nat):PV->PV
 | .sl es (.r m sz)=>if m=n then .sl es .sh else .sl es (.r m sz)
 | p=>p
def PS.down (n:Nat) (s:PS):PS:=⟨s.t.map fun y=>(y.1,y.2.down n),s.b.map fun cs=>cs.map (PV.down n)⟩
theorem PV.down_or (n:Nat) (p:PV):p.down n=p.strip\/(p.down n=p/\p.own≠some n):=by
 cases p<;>try exact .inl rfl
 rename_i es o
 cases o with
 | sh=>exact .inl rfl
 | z=>exact .inl rfl
 | n k=>exact .inr ⟨rfl,by simp [PV.own]⟩
 | p k=>exact .inr ⟨rfl,by simp [PV.own]⟩
 | r m sz=>
   by_cases e:m=n
   ·exact .inl (by simp [PV.down,PV.strip,e])
   ·exact .inr ⟨by simp [PV.down,e],by simp [PV.own,e]⟩
theorem PV.down_own {n:Nat} {p:PV} (h:(p.down n).own≠none):p.down n=p/\p.own≠some n:=by
 rcases PV.down_or n p with e | e
 ·rw [e] at h;exact absurd p.strip_own h
 ·exact e
theorem Vn (n t:Nat):∀ l:List (Nat × PV),yr (l.map fun y=>(y.1,y.2.down n)) t=(yr l t).down n
 | []=>rfl
 | (j,p)::l=>by
   simp only [List.map_cons,yr]
   split
   ·rfl
   ·exact Vn n t l
theorem Va (n t:Nat) (s:PS):(s.down n).get t=(s.get t).down n:=Vn n t s.t
theorem Rel.down {D:Nat->Nat->Prop} {ρ:Nat->Nat} {nb:Nat} {u:Value} {p:PV} (n:Nat) (h:Rel D ρ nb w u p):Rel D ρ nb w u (p.down n):=by
 rcases PV.down_or n p with e | e
 ·rw [e];exact h.strip
 ·rw [e.1];exact h
theorem zbH {n:Nat} {u:Value} {q:PV} (h:zQ g (s.down n) x w u q):∃ p,q=p.down n/\zQ g s x w u p:=by
 rcases h with⟨t,rfl,rfl⟩ | ⟨i,j,cs,h1,h2,h3⟩
 ·exact⟨_,Va n t s,.inl ⟨t,rfl,rfl⟩⟩
 ·simp only [PS.down,List.getElem?_map,Option.map_eq_some_iff] at h1
  obtain⟨cs',h1,rfl⟩:=h1
  simp only [List.getElem?_map,Option.map_eq_some_iff] at h2
  obtain⟨p,h2,rfl⟩:=h2
  exact⟨p,rfl,.inr ⟨i,j,cs',h1,h2,h3⟩⟩
theorem R.down (h:R B g s x w) (n:Nat):R B g (s.down n) x w/\∀ u p,zQ g (s.down n) x w u p->p.own≠none->zQ g s x w u p/\p.own≠some n:=by
 have hl:(s.down n).b.length=s.b.length:=by simp [PS.down]
 have hs:∀ u p,zQ g (s.down n) x w u p->p.own≠none->zQ g s x w u p/\p.own≠some n:=by
  intro u q hq ho
  obtain⟨p,rfl,hp⟩:=zbH hq
  obtain⟨e1,e2⟩:=PV.down_own ho
  rw [e1];exact⟨hp,e2⟩
 refine⟨⟨fun t=>?_,?_,fun i j=>by rw [hl];exact h.inj i j,?_,?_,?_,h.dlt,fun i=>by rw [hl];exact h.dbox i,h.fr⟩,hs⟩
 ·rw [Va,hl];exact(h.slots t).down n
 ·intro i cs hi
  simp only [PS.down,List.getElem?_map,Option.map_eq_some_iff] at hi
  obtain⟨cs',hi,rfl⟩:=hi
  obtain⟨hW,vs,e,h1,h2,h3⟩:=h.boxes i cs' hi
  refine⟨hW,vs,e,h1,by simpa using h2,fun j p hp=>?_⟩
  simp only [List.getElem?_map,Option.map_eq_some_iff] at hp
  obtain⟨p',hp,rfl⟩:=hp
  rw [hl]
  exact⟨(h3 j p' hp).1.down n,(h3 j p' hp).2⟩
 ·intro u q hq
  by_cases ho:q.own=none
  ·exact zr ho
  ·exact h.owns _ _ (hs u q hq ho).1
 ·intro u q u' q' b k1 k2 o1 o2
  exact h.disj _ _ _ _ b (hs _ _ k1 o1).1 (hs _ _ k2 o2).1 o1 o2
 ·intro u q b i k1 o1 b1 hi
  exact h.ownbox _ _ b i (hs _ _ k1 o1).1 o1 b1 (by rw [<-hl];exact hi)
def PS.clean (s:PS):PS:=⟨s.t.map fun y=>(y.1,y.2.clean),s.b⟩
theorem Yy (t:Nat):∀ l:List (Nat × PV),yr (l.map fun y=>(y.1,y.2.clean)) t=(yr l t).clean
 | []=>rfl
 | (j,p)::l=>by
   simp only [List.map_cons,yr]
   split
   ·rfl
   ·exact Yy t l
theorem kT (t:Nat) (s:PS):s.clean.get t=(s.get t).clean:=Yy t s.t
theorem Rel.clean {D:Nat->Nat->Prop} {ρ:Nat->Nat} {nb:Nat} {u:Value} {p:PV} (h:Rel D ρ nb w u p):Rel D ρ nb w u p.clean:=by
 rcases PV.clean_or p with e | e
 ·rw [e];exact h.strip
 ·rw [e];exact h
theorem R.clean (h:R B g s x w):R B g s.clean x w:=by
 have hs:∀ u p,zQ g s.clean x w u p->p.own≠none->zQ g s x w u p:=fun u p hp ho=>by
  rcases hp with⟨t,rfl,rfl⟩ | hp
  ·rw [kT] at ho ⊢
   rcases PV.clean_or (s.get t) with e | e
   ·rw [e] at ho;exact absurd (s.get t).strip_own ho
   ·rw [e];exact .inl ⟨t,rfl,rfl⟩
  ·exact .inr hp
 refine⟨fun t=>by rw [kT];exact(h.slots t).clean,h.boxes,h.inj,fun u p hp=>?_,fun u p u' p' b k1 k2 o1 o2=>h.disj u p u' p' b (hs _ _ k1 o1) (hs _ _ k2 o2) o1 o2,fun u p b i k o1=>h.ownbox u p b i (hs _ _ k o1) o1,h.dlt,h.dbox,h.fr⟩
 by_cases ho:p.own=none
 ·exact zr ho
 ·exact h.owns _ _ (hs _ _ hp ho)
end Go.Proofs.YtopfkkogooocgaaGreat
namespace Go.Proofs.YtopfkkogooocgaaGreat
open Go.RowKit
inductive PO where
 | t (i:Nat)
 | c (p:PV)
 | f (f:FuncId)
def PS.ev (s:PS):PO->PV
 | .t i=>s.get i
 | .c p=>p
 | .f f=>.fn (.func f) [] []
def Q6:Value->PV
 | .slice none 0 0=>.sl [] .sh
 | v=>.v v
def ofV:Value->PV
 | .slice none 0 0=>.sl [] .z
 | .agg vs=>if vs.toList.all (·.oneCell') then .agg (vs.toList.map Q6) else .v (.agg vs)
 | v=>.v v
def po:Operand->Option PO
 | .tmp t=>some (.t t)
 | .const v=>some (.c (ofV v))
 | .func f=>some (.f f)
 | .global _=>none
inductive PK where
 | mv (x:PO)
 | bin (op:BinOp) (x y:PO)
 | beq (neg:Bool) (x y:PO)
 | eq2 (neg:Bool) (x y:PO) (n:Nat)
 | nil (neg:Bool) (x:PO)
 | not (x:PO)
 | cv (k:IntKind) (x:PO)
 | fa (x:PO) (off:Nat)
 | ia (x y:PO) (sz:Nat)
 | aa (x y:PO) (n sz:Nat)
 | ix (x y:PO) (n:Nat) (ag:Bool) (sz:Nat)
 | fl (x:PO) (off:Nat) (ag:Bool) (sz:Nat)
 | ld (x:PO) (ag:Bool) (sz:Nat)
 | nc (x:PO)
 | bd (zs:List PV) (ps:List (Nat × Nat × PO))
 | bs (sz:Nat) (ps:List PO)
 | ln (x:PO)
 | ex (x:PO) (i:Nat)
 | mf (f:Fn) (fs cs:List PO)
 | mi (t:TypeId) (x:PO)
 | pk (c x y:PO)
 | sc (x:PO) (lo hi:Option PO) (sz:Nat)
 | ap (x y:PO) (sz bytes:Nat)
 | mm (max:Bool) (x y:PO)
 | ca (f:FuncId) (xs:List PO)
 | cl (f:PO) (xs:List PO)
 | iv (x:PO) (m:String) (xs:List PO)
 | sb (op:BinOp) (x y:PO)
 | al (zs:List PV)
 | bo (x:PO)
 | st (x y:PO) (sz:Nat)
structure PI where
 d:Option Nat
 g:Option (Nat × Bool)
 k:PK
def Qb:TypeDesc->Bool
 | .struct _=>true
 | .array _ _=>true
 | _=>false
def XH (P:Program) (t:TypeId):Option (Bool × Nat):=(P.info? t).bind fun i=>(P.underlying t).map fun d=>(Qb d,i.size)
def Qu:List Operand->Option (List PO)
 | []=>some []
 | x::r=>(po x).bind fun y=>(Qu r).map fun l=>y::l
def poo:Option Operand->Option (Option PO)
 | none=>some none
 | some x=>(po x).map some
def Qq (P:Program) (fs:Array Field):List (Nat × Operand)->Option (List (Nat × Nat × PO))
 | []=>some []
 | (i,x)::r=>(fs[i]?).bind fun f=>(P.info? f.type).bind fun n=>(po x).bind fun y=>(Qq P fs r).map fun l=>(f.offset,n.size,y)::l
def Qp (sz:Nat):List (Nat × Operand)->Option (List (Nat × Nat × PO))
 | []=>some []
 | (i,x)::r=>(po x).bind fun y=>(Qp sz r).map fun l=>(i * sz,sz,y)::l
def xg (P:Program) (t:TypeId):Option (List PV):=(P.info? t).bind fun i=>i.zero.bind fun z=>if z.cells.toList.all (·.oneCell') then some (z.cells.toList.map Q6) else none
def jX (P:Program) (t:TypeId):Bool:=match P.underlying t with
 | some (.int _)=>true
 | _=>false
def K8 (P:Program):Nat->List Field->Bool
 | _,[]=>true
 | i,f::r=>(f.name != "_") && f.offset == i && jX P f.type && K8 P (i+1) r
def za9 (P:Program) (t:TypeId):Option Nat:=match P.underlying t with
 | some (.struct fs)=>if K8 P 0 fs.toList && !P.stoodInHeld t && !P.eqGuardType P.depth t then some fs.size else none
 | some (.array n e)=>if jX P e && (P.info? e).isSome && P.cellsOf e == 1 && !P.eqGuardType P.depth t then some n else none
 | _=>none
def JL:Operand->Bool
 | .const .nilIface=>true
 | _=>false
def zk3:BinOp->Bool
 | .add | .sub | .mul | .quo | .rem | .eql | .neq | .lss | .leq | .gtr | .geq | .shr=>true
 | _=>false
def zoQ:BinOp->Bool
 | .add | .eql | .neq=>true
 | _=>false
def zpq (P:Program) (t:TypeId):Bool:=match P.underlying t with
 | some .string=>true
 | _=>false
def zc6 (P:Program) (t:TypeId):Bool:=match P.underlying t with
 | some (.interface _)=>true
 | _=>false
def zh0 (P:Program) (t:TypeId):Bool:=match P.underlying t with
 | some .bool=>true
 | _=>false
def zmS (P:Program) (t:TypeId):Bool:=match P.underlying t with
 | some (.int _)=>true
 | _=>false
def XR (P:Program) (o:Oper):Option PK:=
 match o.op with
 | .move x=>(po x).map .mv
 | .assign x=>(po x).map .mv
 | .pick c a b=>(po c).bind fun c=>(po a).bind fun a=>(po b).map fun b=>.pk c a b
 | .alloc e=>(xg P e).map .al
 | .box _ x=>(po x).map .bo
 | .build t parts=>(xg P t).bind fun zs=>match P.underlying t with
   | some (.struct fs)=>if fs.toList.all (fun f=>(P.info? f.type).isSome) then (Qq P fs parts.toList).map fun ps=>.bd zs ps else none
   | some (.array _ e)=>(P.info? e).bind fun i=>(Qp i.size parts.toList).map fun ps=>.bd zs ps
   | _=>none
 | .buildSlice t n parts=>match P.underlying t with
   | some (.slice e)=>(P.info? e).bind fun i=>(xg P e).bind fun zs=>(Qu (parts.toList.map (·.2))).bind fun ps=>
     if parts.toList.map (·.1)=List.range n/\n * i.size<=16777216/\n<=16777216 then some (.bs i.size ps) else none
   | _=>none
 | .load t a=>(XH P t).bind fun(ag,n)=>if ag || n == 1 then (po a).map fun a=>.ld a ag n else none
 | .store t a v=>(XH P t).bind fun(_,n)=>(po a).bind fun a=>(po v).map fun v=>.st a v n
 | .nilCheck x=>(po x).map .nc
 | .binOp op t x y _=>(po x).bind fun x'=>(po y).bind fun y'=>
   if (op == .eql || op == .neq) && JL y && zc6 P t then some (.nil (op == .neq) x')
   else if (op == .eql || op == .neq) && (za9 P t).isSome then some (.eq2 (op == .neq) x' y' ((za9 P t).getD 0))
   else if (op == .eql || op == .neq) && zh0 P t then some (.beq (op == .neq) x' y')
   else if zk3 op && zmS P t then some (.bin op x' y')
   else if zoQ op && zpq P t then some (.sb op x' y') else none
 | .unOp .not _ x=>(po x).map .not
 | .convert s t x=>match P.underlying s,P.underlying t with
   | some (.int _),some (.int k)=>(po x).map (.cv k)
   | _,_=>none
 | .makeInterface t x=>match P.underlying t with
   | some (.interface _)=>none
   | some _=>(po x).map (.mi t)
   | none=>none
 | .makeFunc f fs cs=>(Qu fs.toList).bind fun fs=>(Qu cs.toList).map fun cs=>.mf f fs cs
 | .slice t x lo hi none=>match P.underlying t with
   | some (.slice e)=>(P.info? e).bind fun i=>(po x).bind fun x=>(poo lo).bind fun lo=>(poo hi).map fun hi=>.sc x lo hi i.size
   | _=>none
 | .fieldAddr t x f=>match P.underlying t with
   | some (.struct fs)=>(fs[f]?).bind fun fd=>(P.info? fd.type).bind fun i=>if i.size=0 then none else (po x).map fun x=>.fa x fd.offset
   | _=>none
 | .field t x f=>match P.underlying t with
   | some (.struct fs)=>(fs[f]?).bind fun fd=>(XH P fd.type).bind fun(ag,n)=>if ag || n == 1 then (po x).map fun x=>.fl x fd.offset ag n else none
   | _=>none
 | .indexAddr t x y=>match P.underlying t with
   | some (.slice e)=>(P.info? e).bind fun i=>(po x).bind fun x=>(po y).map fun y=>.ia x y i.size
   | some (.array n e)=>(P.info? e).bind fun i=>(po x).bind fun x=>(po y).map fun y=>.aa x y n i.size
   | _=>none
 | .index t x y=>match P.underlying t with
   | some (.array n e)=>(XH P e).bind fun(ag,k)=>if ag || k == 1 then (po x).bind fun x=>(po y).map fun y=>.ix x y n ag k else none
   | _=>none
 | .extract x i=>(po x).map fun x=>.ex x i
 | .call c=>match c.callee,c.args.toList,c.argTypes.toList with
   | .builtin .len,[x],[t]=>match P.underlying t with
     | some (.slice _)=>(po x).map .ln
     | _=>none
   | .builtin .append,[x,y],[t,t']=>match P.underlying t with
     | some (.slice e)=>(P.info? e).bind fun i=>if t=t'/\0<i.size/\0<i.bytes then (xg P e).bind fun zs=>if zs.length=i.size then (po x).bind fun x=>(po y).map fun y=>.ap x y i.size i.bytes else none else none
     | _=>none
   | .builtin .max,[x,y],_=>(po x).bind fun x=>(po y).map fun y=>.mm true x y
   | .builtin .min,[x,y],_=>(po x).bind fun x=>(po y).map fun y=>.mm false x y
   | .value (.func f),xs,_=>(Qu xs).map fun xs=>.ca f xs
   | .value (.tmp t),xs,_=>(Qu xs).map fun xs=>.cl (.t t) xs
   | .invoke (.tmp t) m,xs,_=>(Qu xs).map fun xs=>.iv (.t t) m xs
   | _,_,_=>none
 | .unOp .neg _ x=>(po x).map fun x'=>.bin .sub (.c (.v (.int .i64 0))) x'
 | _=>none
def Cn (P:Program) (f:FuncId) (ps:List PV) (r:PV):Prop:=
 (∀ args w,(callFunc f args).run P w=.ok (.enter f args) w) /\
 ∀(D:Nat->Nat->Prop) (w:World) (vs:Array Value),GL D w->(∀ b o,D b o->b<w.heap.size)->vs.size=ps.length->(∀(i:Nat) p,ps[i]? = some p->Dat D w (vs.getD i undef) p)->Calls P f vs w fun e w'=>
  ∃ v D',e=.returned v/\Below w.heap.size w w'/\(∀ b o,D b o->D' b o)/\(∀ b o,D' b o->D b o\/w.heap.size<=b)/\(∀ b o,D' b o->b<w'.heap.size)/\Dat D' w' v r/\yW D' (fun k=>w.heap.size<=k) w' v r
def OCn (P:Program) (f:FuncId) (es:List (List PV)) (sz:Nat) (ps:List PV) (rs:List (List PV)):Prop:=
 (∀ args w,(callFunc f args).run P w=.ok (.enter f args) w) /\
 ∀(D:Nat->Nat->Prop) (w:World) (v:Value) (vs:Array Value),GL D w->(∀ b o,D b o->b<w.heap.size)->vs.size=ps.length->(∀(i:Nat) p,ps[i]? = some p->Dat D w (vs.getD i undef) p)->Dat D w v (.sl es .sh)->yW D (fun _=>True) w v (.sl es (.r 0 sz)) ->
  Calls P f (#[v]++vs) w fun e w'=>∃ u D',e=.returned u/\(w'.os=w.os/\w'.tape=w.tape/\w'.output=w.output/\w.heap.size<=w'.heap.size)/\(∀ k,k<w.heap.size->zc v≠some k->w'.heap[k]? = w.heap[k]?) /\
   (∀ b o y,D b o->w.cell? ⟨b,o,none⟩=some y->w'.cell? ⟨b,o,none⟩=some y)/\(∀ b o,D b o->D' b o)/\(∀ b o,D' b o->D b o\/w.heap.size<=b\/zc v=some b)/\(∀ b o,D' b o->b<w'.heap.size) /\
   Dat D' w' u (.sl rs .sh)/\yW D' (fun k=>w.heap.size<=k\/zc v=some k) w' u (.sl rs (.r 0 sz))
def qW (p:PV) (K:List PV->Prop):Prop:=match p with
 | .agg cs=>K cs
 | .v x=>x.oneCell'=true/\K [.v x]
 | .sl es o=>K [.sl es o]
 | .cp cs o=>K [.cp cs o]
 | .bx i o=>K [.bx i o]
 | .fn f fs cs=>K [.fn f fs cs]
 | .ifc t x=>K [.ifc t x]
 | _=>False
def qV (p:PV) (K:Bool->Prop):Prop:=match p with
 | .v (.bool b)=>K b
 | _=>False
def vR (p:PV) (K:IntKind->Int->Prop):Prop:=match p with
 | .v (.int k n)=>K k n
 | _=>False
def QA (p:PV) (K:List (List PV)->Prop):Prop:=match p with
 | .sl es _=>K es
 | _=>False
def qar (k:IntKind) (n:Int) (K:PV->Prop):Prop:=match k with
 | .i64=>(-9223372036854775808<=n/\n<9223372036854775808)/\K (.v (.int .i64 n))
 | k=>K (.v (.int k (k.wrap n)))
def zgm (k:IntKind) (a b:Int):Int:=a.fdiv (2 ^ (min b.toNat k.bits))
def Xo (op:BinOp) (k:IntKind) (a b:Int) (K:PV->Prop):Prop:=match op with
 | .add=>qar k (a+b) K
 | .sub=>qar k (a - b) K
 | .mul=>qar k (a * b) K
 | .quo=>b≠0/\qar k (a.tdiv b) K
 | .rem=>b≠0/\K (.v (.int k (a.tmod b)))
 | .eql=>K (.v (.bool (decide (a=b))))
 | .neq=>K (.v (.bool (!decide (a=b))))
 | .lss=>K (.v (.bool (decide (a<b))))
 | .leq=>K (.v (.bool (decide (a<=b))))
 | .gtr=>K (.v (.bool (decide (b<a))))
 | .geq=>K (.v (.bool (decide (b<=a))))
 | .shr=>0<=b/\K (.v (.int k (zgm k a b)))
 | _=>False
def QB (op:BinOp) (p q:PV) (K:PV->Prop):Prop:=match p,q with
 | .v (.int k a),.v (.int k' b)=>k=k'/\Xo op k a b K
 | _,_=>False
def jy:List PV->List PV->Prop
 | [],[]=>True
 | .v (.int k _)::r,.v (.int k' _)::r'=>k=k'/\jy r r'
 | _,_=>False
def xQ:List PV->List PV->Bool
 | .v (.int _ a)::r,.v (.int _ b)::r'=>decide (a=b) && xQ r r'
 | _,_=>true
def zbz (neg:Bool) (m:Nat) (p q:PV) (K:PV->Prop):Prop:=match p,q with
 | .agg xs,.agg ys=>(xs.length=m/\jy xs ys)/\K (.v (.bool (neg != xQ xs ys)))
 | _,_=>False
def sbV (op:BinOp) (a b:ByteArray):PV:=match op with
 | .add=>.v (.string (a++b))
 | .eql=>.v (.bool (a.toList == b.toList))
 | _=>.v (.bool !(a.toList == b.toList))
def qsb (op:BinOp) (p q:PV) (K:PV->Prop):Prop:=match p,q with
 | .v (.string a),.v (.string b)=>a.size+b.size<=9223372036854775807/\K (sbV op a b)
 | _,_=>False
def Mth (P:Program) (t:TypeId) (m:String) (f:FuncId):Prop:=∀(v:Value) (args:Array Value) (w:World),(callMethod (.iface t v) m args).run P w=(callFunc f (#[v]++args)).run P w
def VI (cs:List PV) (o:Nat) (ag:Bool) (n:Nat) (K:PV->Prop):Prop:=match ag with
 | true=>o+n<=cs.length/\K (.agg ((cs.drop o).take n))
 | false=>match cs[o]? with
   | some p=>K p
   | none=>False
def zY (ps:List PV):Bool:=ps.all PV.isD
def XI (zs cs:List PV) (off:Nat):List PV:=zs.take off++cs++zs.drop (off+cs.length)
def vS (s:PS):List (Nat × Nat × PO)->List PV->(List PV->Prop)->Prop
 | [],zs,K=>K zs
 | (off,n,x)::r,zs,K=>qW (s.ev x) fun cs=>cs.length=n/\off+n<=zs.length/\zY cs=true/\vS s r (XI zs (cs.map PV.sh) off) K
def yP (s:PS) (sz:Nat):List PO->(List (List PV)->Prop)->Prop
 | [],K=>K []
 | x::r,K=>qW (s.ev x) fun cs=>cs.length=sz/\zY cs=true/\yP s sz r fun es=>K (cs.map PV.sh::es)
def Xw (lo:Option PO) (p:PV):Ow:=match lo,p with
 | none,.sl _ (.p i)=>.p i
 | _,_=>.sh
def qBd (s:PS) (y:Option PO) (n:Nat) (K:Nat->Prop):Prop:=match y with
 | none=>K n
 | some y=>vR (s.ev y) fun _ n=>0<=n/\K n.toNat
def PK.q (P:Program) (s:PS) (k:PK) (K:PV->Prop):Prop:=match k with
 | .mv x=>match x with
   | .t i=>K ((s.get i).pre i)
   | x=>K (s.ev x).strip
 | .bin op x y=>QB op (s.ev x) (s.ev y) K
 | .beq n x y=>qV (s.ev x) fun a=>qV (s.ev y) fun b=>K (.v (.bool (n != (a == b))))
 | .eq2 n x y m=>zbz n m (s.ev x) (s.ev y) K
 | .nil n x=>match s.ev x with
   | .v .nilIface=>K (.v (.bool (!n)))
   | .ifc _ _=>K (.v (.bool n))
   | _=>False
 | .not x=>qV (s.ev x) fun b=>K (.v (.bool (!b)))
 | .cv k x=>vR (s.ev x) fun _ n=>K (.v (.int k (k.wrap n)))
 | .fa x off=>match s.ev x with
   | .bx i o=>K (.bx i (o+off))
   | .cp cs o=>K (.cp cs (o+off))
   | _=>False
 | .ia x y sz=>QA (s.ev x) fun es=>vR (s.ev y) fun _ n=>0<=n/\match es[n.toNat]? with
   | some e=>e.length=sz/\K (.cp e 0)
   | none=>False
 | .aa x y n sz=>vR (s.ev y) fun _ m=>(0<=m/\m<n)/\match s.ev x with
   | .bx i o=>K (.bx i (o+m.toNat * sz))
   | .cp cs o=>K (.cp cs (o+m.toNat * sz))
   | _=>False
 | .ix x y n ag sz=>vR (s.ev y) fun _ m=>(0<=m/\m<n)/\match s.ev x with
   | .agg cs=>VI cs (m.toNat * sz) ag sz fun p=>K p.strip
   | _=>False
 | .fl x off ag n=>match s.ev x with
   | .agg cs=>VI cs off ag n fun p=>K p.strip
   | _=>False
 | .ld x ag n=>match s.ev x with
   | .cp cs o=>VI cs o ag n fun p=>K p.strip
   | .bx i o=>match s.b[i]? with
     | some cs=>zY ((cs.drop o).take n)=true/\VI cs o ag n fun p=>K p.strip
     | none=>False
   | _=>False
 | .nc x=>match s.ev x with
   | .bx i o=>K (.bx i o)
   | .cp cs o=>K (.cp cs o)
   | _=>False
 | .bd zs ps=>vS s ps zs fun cs=>K (.agg cs)
 | .bs sz ps=>yP s sz ps fun es=>K (.sl es .z)
 | .ln x=>QA (s.ev x) fun es=>K (.v (.int .i64 es.length))
 | .ex x i=>match s.ev x with
   | .tup cs=>match cs[i]? with
     | some p=>K p.strip
     | none=>False
   | _=>False
 | .mf f fs cs=>(fs.all (fun x=>(s.ev x).sh.isD || (s.ev x).sh.isB) && cs.all (fun x=>(s.ev x).sh.isD || (s.ev x).sh.isB))=true/\K (.fn f (fs.map fun x=>(s.ev x).sh) (cs.map fun x=>(s.ev x).sh))
 | .mi t x=>match (s.ev x).isD with
   | true=>K (.ifc t (s.ev x).sh)
   | false=>False
 | .pk c x y=>qV (s.ev c) fun b=>(b=true->K (s.ev x).strip)/\(b=false->K (s.ev y).strip)
 | .sc x lo hi sz=>QA (s.ev x) fun es=>qBd s hi es.length fun h=>qBd s lo 0 fun l=>l<=h/\h<=es.length/\(∀ e ∈ es,e.length=sz)/\K (.sl ((es.take h).drop l) (Xw lo (s.ev x)))
 | .mm m x y=>vR (s.ev x) fun k a=>vR (s.ev y) fun k' b=>k=k'/\K (.v (.int k (if m then (if b > a then b else a) else (if b<a then b else a))))
 | .ca f xs=>∃ r,Cn P f (xs.map fun x=>(s.ev x).sh) r/\zY (xs.map fun x=>(s.ev x).sh)=true/\K r.strip
 | .cl y xs=>match s.ev y with
   | .fn (.func f) fs cs=>∃ r,Cn P f (fs++(xs.map fun x=>(s.ev x).sh)++cs) r/\zY (fs++(xs.map fun x=>(s.ev x).sh)++cs)=true/\K r.strip
   | _=>False
 | .iv x m xs=>match s.ev x with
   | .ifc t p=>∃ f,Mth P t m f/\∃ r,Cn P f (p.sh::xs.map fun x=>(s.ev x).sh) r/\zY (p.sh::xs.map fun x=>(s.ev x).sh)=true/\K r.strip
   | _=>False
 | .sb op x y=>qsb op (s.ev x) (s.ev y) K
 | .ap x y sz by_=>match s.ev x with
   | .sl es .z=>QA (s.ev y) fun es'=>(∀ e ∈ es,e.length=sz)/\(∀ e ∈ es',e.length=sz)/\(es.length+es'.length) * by_<=140737488355328/\K (.sl (es++es') (.n sz))
   | _=>False
 | _=>False
def yC (y:PO) (p:PV) (cs:List PV):List PV:=match y,p with
 | .t _,.sl es o=>[.sl es o]
 | _,_=>cs.map PV.sh
def apO (es es':List (List PV)) (d sz:Nat):Ow:=match es,es' with
 | _::_,[]=>.sh
 | _,_=>.r d sz
def isT:PO->Bool
 | .t _=>true
 | _=>false
def PV.fz1 (b:List (List PV)):PV->PV
 | .bx i o=>.cp ((b[i]?.getD []).map PV.sh) o
 | p=>p
def PV.fz (b:List (List PV)):PV->PV
 | .fn f fs cs=>.fn f (fs.map (PV.fz1 b)) (cs.map (PV.fz1 b))
 | p=>p.fz1 b
def PS.fz (s:PS):PS:=⟨s.t.map fun y=>(y.1,y.2.fz s.b),[]⟩
def PK.e (P:Program) (k:PK) (d:Option Nat) (s:PS) (K:PS->Prop):Prop:=match k with
 | .mf f fs cs=>if (fs.any fun x=>(s.ev x).isB) || (cs.any fun x=>(s.ev x).isB) then s.b.all zY=true/\PK.q P s.fz (.mf f fs cs) fun p=>K (s.fz.put d p) else PK.q P s (.mf f fs cs) fun p=>K (s.put d p)
 | .mv (.t i)=>K (s.put d (s.get i))
 | .sc x lo hi sz=>PK.q P s (.sc x lo hi sz) fun p=>K (s.put d p.strip)
 | .ld x false 1=>match s.ev x with
   | .bx i o=>match s.b[i]? with
     | some cs=>match cs[o]? with
       | some p=>K (s.put d p)
       | none=>False
     | none=>False
   | _=>PK.q P s (.ld x false 1) fun p=>K (s.put d p)
 | .al zs=>K (PS.put ⟨s.t,s.b++[zs]⟩ d (.bx s.b.length 0))
 | .bs sz ps=>match d with
   | some d=>yP s sz ps fun es=>K (s.put (some d) (.sl es (.r d sz)))
   | none=>PK.q P s (.bs sz ps) fun p=>K (s.put d p)
 | .bo x=>qW (s.ev x) fun cs=>K (PS.put ⟨s.t,s.b++[cs.map PV.sh]⟩ d (.bx s.b.length 0))
 | .st x y sz=>match s.ev x with
   | .bx i o=>match s.b[i]? with
     | some cs=>qW (s.ev y) fun us=>us.length=sz/\o+sz<=cs.length/\K (PS.put ⟨s.t,s.b.set i (XI cs (yC y (s.ev y) us) o)⟩ d (.v undef))
     | none=>False
   | _=>False
 | .ap x y sz by_=>match s.ev x with
   | .sl es (.r n sz')=>sz'=sz/\isT x=true/\QA (s.ev y) fun es'=>(∀ e ∈ es',e.length=sz)/\(es.length+es'.length) * by_<=140737488355328/\K ((s.down n).put d (.sl (es++es') (.r n sz)))
   | .sl es .z=>match d with
     | some d=>QA (s.ev y) fun es'=>(∀ e ∈ es,e.length=sz)/\(∀ e ∈ es',e.length=sz)/\(es.length+es'.length) * by_<=140737488355328/\K (s.put (some d) (.sl (es++es') (apO es es' d sz)))
     | none=>PK.q P s (.ap x y sz by_) fun p=>K (s.put d p.strip)
   | _=>False
 | .ca f xs=>match xs with
   | .t i::xs'=>match s.get i with
     | .sl es (.r n sz)=>(∃ r,Cn P f (xs.map fun x=>(s.ev x).sh) r/\zY (xs.map fun x=>(s.ev x).sh)=true/\K (s.put d r))\/∃ rs,OCn P f es sz (xs'.map fun x=>(s.ev x).sh) rs/\zY (xs'.map fun x=>(s.ev x).sh)=true/\K ((s.down n).put d (.sl rs (.r n sz)))
     | _=>∃ r,Cn P f (xs.map fun x=>(s.ev x).sh) r/\zY (xs.map fun x=>(s.ev x).sh)=true/\K (s.put d r)
   | _=>∃ r,Cn P f (xs.map fun x=>(s.ev x).sh) r/\zY (xs.map fun x=>(s.ev x).sh)=true/\K (s.put d r)
 | k=>k.q P s fun p=>K (s.put d p)
end Go.Proofs.YtopfkkogooocgaaGreat
namespace Go.Proofs.YtopfkkogooocgaaGreat
open Go.RowKit
variable {P:Program} {s:PS}
def Det {α:Type} (H:(α->Prop)->Prop):Prop:=∀ K,H K->∃ x,K x/\H fun y=>y=x
theorem Det.pure {α:Type} (x:α):Det fun K:α->Prop=>K x:=fun K h=>⟨x,h,rfl⟩
theorem Det.false {α:Type}:Det fun _:α->Prop=>False:=fun _ h=>h.elim
theorem Det.and {α:Type} {H:(α->Prop)->Prop} (p:Prop) (h:Det H):Det fun K=>p/\H K:=fun K hk=>by
 obtain⟨x,h1,h2⟩:=h K hk.2
 exact⟨x,h1,hk.1,h2⟩
theorem Qw {α:Type} {p:PV} {H:List PV->(α->Prop)->Prop} (h:∀ cs,Det (H cs)):Det fun K=>qW p fun cs=>H cs K:=by
 intro K hk
 unfold qW at hk ⊢
 split at hk<;>first | exact h _ K hk | exact Det.and _ (h _) K hk | exact hk.elim
theorem jm {α:Type} {p:PV} {H:Bool->(α->Prop)->Prop} (h:∀ b,Det (H b)):Det fun K=>qV p fun b=>H b K:=by
 intro K hk
 unfold qV at hk ⊢
 split at hk
 ·exact h _ K hk
 ·exact hk.elim
theorem yQ {α:Type} {p:PV} {H:IntKind->Int->(α->Prop)->Prop} (h:∀ k n,Det (H k n)):Det fun K=>vR p fun k n=>H k n K:=by
 intro K hk
 unfold vR at hk ⊢
 split at hk
 ·exact h _ _ K hk
 ·exact hk.elim
theorem ZQ {α:Type} {p:PV} {H:List (List PV)->(α->Prop)->Prop} (h:∀ es,Det (H es)):Det fun K=>QA p fun es=>H es K:=by
 intro K hk
 unfold QA at hk ⊢
 split at hk
 ·exact h _ K hk
 ·exact hk.elim
theorem zav (k:IntKind) (n:Int):Det (qar k n):=by
 intro K hk
 unfold qar at hk ⊢
 split at hk
 ·exact⟨_,hk.2,hk.1,rfl⟩
 ·exact⟨_,hk,rfl⟩
theorem zdZ (op:BinOp) (k:IntKind) (a b:Int):Det (Xo op k a b):=by
 intro K hk
 unfold Xo at hk ⊢
 split at hk<;>first | exact zav _ _ K hk | exact Det.and _ (zav _ _) K hk | exact Det.and _ (Det.pure _) K hk | exact⟨_,hk,rfl⟩ | exact hk.elim
theorem zdV (op:BinOp) (p q:PV):Det (QB op p q):=by
 intro K hk
 unfold QB at hk ⊢
 split at hk
 ·exact Det.and _ (zdZ _ _ _ _) K hk
 ·exact hk.elim
theorem zdY (n:Bool) (m:Nat) (p q:PV):Det (zbz n m p q):=by
 intro K hk
 unfold zbz at hk ⊢
 split at hk
 ·exact⟨_,hk.2,hk.1,rfl⟩
 ·exact hk.elim
theorem zgf (cs:List PV) (o:Nat) (ag:Bool) (n:Nat):Det (VI cs o ag n):=by
 intro K hk
 unfold VI at hk ⊢
 split at hk
 ·exact⟨_,hk.2,hk.1,rfl⟩
 ·split at hk
  ·exact⟨_,hk,rfl⟩
  ·exact hk.elim
theorem kB {α:Type} (cs:List PV) (o:Nat) (ag:Bool) (n:Nat) (f:PV->α):Det fun K:α->Prop=>VI cs o ag n fun p=>K (f p):=by
 intro K hk
 obtain⟨x,h1,h2⟩:=zgf cs o ag n _ hk
 refine⟨f x,h1,?_⟩
 unfold VI at h2 ⊢
 split at h2
 ·exact⟨h2.1,by rw [h2.2]⟩
 ·split at h2
  ·rw [h2]
  ·exact h2.elim
theorem Qy {α:Type} (f:List PV->α):∀(ps:List (Nat × Nat × PO)) (zs:List PV),Det fun K:α->Prop=>vS s ps zs fun cs=>K (f cs)
 | [],zs=>Det.pure _
 | (off,n,x)::r,zs=>Qw fun cs=>Det.and _ (Det.and _ (Det.and _ (Qy f r _)))
theorem Qx {α:Type} (sz:Nat):∀(ps:List PO) (f:List (List PV)->α),Det fun K:α->Prop=>yP s sz ps fun es=>K (f es)
 | [],f=>Det.pure _
 | x::r,f=>Qw fun cs=>Det.and _ (Det.and _ (Qx sz r fun es=>f (cs.map PV.sh::es)))
theorem zar {α:Type} (y:Option PO) (n:Nat) {H:Nat->(α->Prop)->Prop} (h:∀ n,Det (H n)):Det fun K=>qBd s y n fun m=>H m K:=by
 cases y with
 | none=>exact h n
 | some y=>exact yQ fun _ _=>Det.and _ (h _)
theorem zat (k:PK):Det (k.q P s):=by
 cases k with
 | mv x=>cases x<;>exact Det.pure _
 | bin op x y=>exact zdV _ _ _
 | beq n x y=>exact jm fun a=>jm fun b=>Det.pure _
 | eq2 n x y m=>exact zdY _ _ _ _
 | nil n x=>
   intro K hk
   simp only [PK.q] at hk ⊢
   split at hk<;>first | exact⟨_,hk,rfl⟩ | exact hk.elim
 | not x=>exact jm fun a=>Det.pure _
 | cv k x=>exact yQ fun a b=>Det.pure _
 | fa x off=>
   intro K hk
   simp only [PK.q] at hk ⊢
   split at hk<;>first | exact⟨_,hk,rfl⟩ | exact hk.elim
 | ia x y sz=>
   refine ZQ fun es=>yQ fun _ n=>Det.and _ fun K hk=>?_
   split at hk
   ·exact⟨_,hk.2,hk.1,rfl⟩
   ·exact hk.elim
 | aa x y n sz=>
   refine yQ fun _ m=>Det.and _ fun K hk=>?_
   split at hk<;>first | exact⟨_,hk,rfl⟩ | exact hk.elim
 | ix x y n ag sz=>
   refine yQ fun _ m=>Det.and _ fun K hk=>?_
   split at hk
   ·exact kB _ _ _ _ _ K hk
   ·exact hk.elim
 | fl x off ag n=>
   intro K hk
   simp only [PK.q] at hk ⊢
   split at hk
   ·exact kB _ _ _ _ _ K hk
   ·exact hk.elim
 | ld x ag n=>
   intro K hk
   simp only [PK.q] at hk ⊢
   split at hk
   ·exact kB _ _ _ _ _ K hk
   ·split at hk
    ·exact Det.and _ (kB _ _ _ _ _) K hk
    ·exact hk.elim
   ·exact hk.elim
 | nc x=>
   intro K hk
   simp only [PK.q] at hk ⊢
   split at hk<;>first | exact⟨_,hk,rfl⟩ | exact hk.elim
 | bd zs ps=>exact Qy _ _ _
 | bs sz ps=>exact Qx _ _ _
 | ln x=>exact ZQ fun _=>Det.pure _
 | ex x i=>
   intro K hk
   simp only [PK.q] at hk ⊢
   split at hk
   ·split at hk
    ·exact⟨_,hk,rfl⟩
    ·exact hk.elim
   ·exact hk.elim
 | mf f fs cs=>exact Det.and _ (Det.pure _)
 | mi t x=>
   intro K hk
   simp only [PK.q] at hk ⊢
   split at hk
   ·exact⟨_,hk,rfl⟩
   ·exact hk.elim
 | pk c x y=>
   refine jm fun b=>?_
   intro K hk
   cases b with
   | true=>exact⟨_,hk.1 rfl,fun _=>rfl,nofun⟩
   | false=>exact⟨_,hk.2 rfl,nofun,fun _=>rfl⟩
 | sc x lo hi sz=>exact ZQ fun es=>zar _ _ fun h=>zar _ _ fun l=>Det.and _ (Det.and _ (Det.and _ (Det.pure _)))
 | ap x y sz b=>
   intro K hk
   simp only [PK.q] at hk ⊢
   split at hk
   ·exact ZQ (fun es'=>Det.and _ (Det.and _ (Det.and _ (Det.pure _)))) K hk
   ·exact hk.elim
 | mm m x y=>exact yQ fun _ _=>yQ fun _ _=>Det.and _ (Det.pure _)
 | ca f xs=>
   intro K hk
   obtain⟨r,h1,h2,h3⟩:=hk
   exact⟨_,h3,r,h1,h2,rfl⟩
 | cl y xs=>
   intro K hk
   simp only [PK.q] at hk ⊢
   split at hk
   ·obtain⟨r,h1,h2,h3⟩:=hk
    exact⟨_,h3,r,h1,h2,rfl⟩
   ·exact hk.elim
 | iv x m xs=>
   intro K hk
   simp only [PK.q] at hk ⊢
   split at hk
   ·obtain⟨f,hm,r,h1,h2,h3⟩:=hk
    exact⟨_,h3,f,hm,r,h1,h2,rfl⟩
   ·exact hk.elim
 | sb op x y=>
   intro K hk
   simp only [PK.q] at hk ⊢
   unfold qsb at hk ⊢
   split at hk
   ·exact⟨_,hk.2,hk.1,rfl⟩
   ·exact hk.elim
 | al zs=>exact Det.false
 | bo x=>exact Det.false
 | st x y n=>exact Det.false
end Go.Proofs.YtopfkkogooocgaaGreat
