import Derived.Test.YtonhfknjcbakiaaDoorB21
import Derived.Test.YtonhfknjcbakiaaDoorB22
import Derived.Test.YtonhfknjcbakiaaDoorB23
import Derived.Test.YtonhfknjcbakiaaDoorB24
import Derived.Test.YtonhfknjcbakiaaDoorB25
import Derived.Test.YtonhfknjcbakiaaDoorB34
import Derived.Test.YtonhfknjcbakiaaDoorB36
set_option linter.unusedVariables false
set_option linter.unusedSimpArgs false
set_option maxRecDepth 100000
namespace Go.Proofs.YtonhfknjcbakiaaDoor
open Go.RowKit
def cp2 (a b:Nat):PV:=.agg [.v (.int .u64 a),.v (.int .u64 b)]
def cw (n:Nat):PV:=cp2 (n / zk) (n % zk)
attribute [go_sem] cp2 cw
theorem RightV.take {v:List En} (h:RightV v) (k:Nat):RightV (v.take k):=⟨fun e he=>h.1 e (List.mem_of_mem_take he),h.2.sublist (List.take_sublist _ _)⟩
def vps (vs:List (List En)):PV:=.sl (vs.map fun v=>[vp v]) .sh
attribute [go_sem] vps
theorem SmV.g {v:List En} (h:SmV v):v.length<=1152921504606846976/\∀ e ∈ v,e.holes.length<=1152921504606846976:=⟨by have:=h.2.1;omega,fun e he=>by have:=h.2.2 e he;omega⟩
theorem WV.smv {C:Nat->List Nat} {R:List Nat} {v:List En} (h:WV C R v) (ok:OkC C R):SmV v:=(h.bv ok.1 ok.2).mono (Nat.le_refl _) (by omega)
theorem kH {D:Nat->Nat->Prop} {w:World} {x:Value} {es:List (List PV)} {o:Ow} (h:Dat D w x (.sl es o)):∃ s:Sv,x=sv s/\s.2.1=es.length:=by
 obtain⟨ad,cap,sz,b,off,f,e1,_⟩:=(Rel.dat (ρ:=fun _=>0) (nb:=0) h).inv_sl
 exact⟨(ad,es.length,cap),e1,rfl⟩
def InvD {α:Type} (D0:Nat->Nat->Prop) (n:Nat) (pv:α->PV) (P:α->Prop) (W:World) (u:Value) (a:α):Prop:=
 P a/\∃ D:Nat->Nat->Prop,GL D W/\(∀ b o,D b o->b<W.heap.size/\b≠n/\b≠n+2/\b≠n+3)/\(∀ b o,D b o->D0 b o\/n<=b)/\(∀ b o,D0 b o->D b o)/\Dat D W u (pv a)
section
variable {α:Type} {D0:Nat->Nat->Prop} {pv:α->PV} {P:α->Prop} {w W A B:World} {u:Value} {a:α}
theorem InvD.start {u0:Value} (h0:Dat D0 w u0 (.sl [] .sh)) (hG:GL D0 w) (hD:∀ b o,D0 b o->b<w.heap.size) (hb:Below w.heap.size w W) (hP:P a) (hp:pv a=.sl [] .sh):InvD D0 w.heap.size pv P W u0 a:=by
 have hw:∀ b o x,D0 b o->w.cell? ⟨b,o,none⟩=some x->W.cell? ⟨b,o,none⟩=some x:=fun b o x hd hx=>(hb.cell (p:=⟨b,o,none⟩) (hD b o hd)).trans hx
 refine⟨hP,D0,hG.mono (fun _ _ h=>h) hw,fun b o h=>?_,fun _ _ h=>.inl h,fun _ _ h=>h,?_⟩
 ·have:=hD b o h
  have:=hb.size
  exact⟨by omega,by omega,by omega,by omega⟩
 ·rw [hp]
  exact h0.mono (fun _ _ h=>h) hw
theorem InvD.shape {n:Nat} (h:InvD D0 n pv P W u a) (hp:∃ es,pv a=.sl es .sh):∃ ad n c,u=.slice ad n c:=by
 obtain⟨_,D,_,_,_,_,hd⟩:=h
 obtain⟨es,e⟩:=hp
 rw [e] at hd
 obtain⟨s,rfl,_⟩:=kH hd
 exact⟨_,_,_,rfl⟩
theorem InvD.keep {n:Nat} (h:InvD D0 n pv P A u a) (hk:Keep (fun k=>k=n\/k=n+2\/k=n+3) A B):InvD D0 n pv P B u a:=by
 obtain⟨hP,D,h1,h2,h3,h4,h5⟩:=h
 have hw:∀ b o x,D b o->A.cell? ⟨b,o,none⟩=some x->B.cell? ⟨b,o,none⟩=some x:=fun b o x hd hx=>
  (World.cell?_of_block (a:=⟨b,o,none⟩) (hk.block b (h2 b o hd).1 (by have:=h2 b o hd;omega))).trans hx
 exact⟨hP,D,h1.mono (fun _ _ h=>h) hw,fun b o hd=>⟨Nat.lt_of_lt_of_le (h2 b o hd).1 hk.size,(h2 b o hd).2⟩,h3,h4,h5.mono (fun _ _ h=>h) hw⟩
theorem zhD {D:Nat->Nat->Prop} {f:Fv} {g:Fg} (h0:Dat D w (sv f.1) (rg g.items)) (h1:Dat D w (sv f.2) (vp g.vec)):Dat D w (.agg #[sv f.1,sv f.2]) (fp g):=by
 refine .agg _ _ rfl (fun i hi=>?_) fun i p hp=>?_
 ·match i,hi with
  | 0,_=>rfl
  | 1,_=>rfl
 ·match i,hp with
  | 0,hp=>cases hp;exact h0
  | 1,hp=>cases hp;exact h1
  | i+2,hp=>simp [fc] at hp
theorem InvD.step {F1:FuncId} {i:Nat} {f:Fv} {g:Fg} {a':α} (h:InvD D0 w.heap.size pv P W u a) (hD:∀ b o,D0 b o->b<w.heap.size) (hb:Below w.heap.size w W) (hs:w.heap.size+4<=W.heap.size) (h0:Dat D0 w (sv f.1) (rg g.items)) (h1:Dat D0 w (sv f.2) (vp g.vec))
 (hc:Cn Tryd.prog F1 [pv a,.v (.int .i64 i),fp g] (pv a')) (hP:P a') :
 Calls Tryd.prog F1 #[u,.int .i64 (i:Nat),.agg #[sv f.1,sv f.2]] W fun e W'=>∃ u',e=.returned u'/\InvD D0 w.heap.size pv P W' u' a'/\Keep (zaB (w.heap.size+4) W) W W':=by
 obtain⟨_,D,g1,g2,g3,g4,g5⟩:=h
 have hw:∀ b o x,D0 b o->w.cell? ⟨b,o,none⟩=some x->W.cell? ⟨b,o,none⟩=some x:=fun b o x hd hx=>(hb.cell (p:=⟨b,o,none⟩) (hD b o hd)).trans hx
 refine(jP hc g1 (fun b o h=>(g2 b o h).1) rfl (fun j p hp=>?_)).mono ?_
 ·match j,hp with
  | 0,hp=>cases hp;exact g5
  | 1,hp=>cases hp;exact .v _
  | 2,hp=>cases hp;exact(zhD h0 h1).mono g4 hw
  | j+3,hp=>simp at hp
 ·rintro e W' ⟨v,rfl,hb',hd⟩
  refine⟨v,rfl,⟨hP,_,g1.mono (fun _ _ h=>.inl h) fun b o x hd hx=>(hb'.cell (p:=⟨b,o,none⟩) (g2 b o hd).1).trans hx,fun b o h=>?_,fun b o h=>?_,fun b o h=>.inl (g4 b o h),hd⟩,Keep.of_below' hb' (Nat.le_refl _)⟩
  ·rcases h with h | h
   ·exact⟨Nat.lt_of_lt_of_le (g2 b o h).1 hb'.size,(g2 b o h).2⟩
   ·exact⟨h.2,by omega,by omega,by omega⟩
  ·rcases h with h | h
   ·exact g3 b o h
   ·exact .inr (by omega)
theorem InvD.done (h:InvD D0 w.heap.size pv P W u a):Dat (fun b o=>D0 b o\/(w.heap.size<=b/\b<W.heap.size)) W u (pv a):=by
 obtain⟨_,D,g1,g2,g3,g4,g5⟩:=h
 exact g5.mono (fun b o h=>(g3 b o h).imp id fun h'=>⟨h',(g2 b o h).1⟩) fun _ _ _ _ h=>h
end
def SzK (k:List Fg):Prop:=k.length<=1152921504606846976/\∀ f ∈ k,f.items.length<=1152921504606846976/\f.vec.length<=1152921504606846976/\∀ e ∈ f.vec,e.holes.length<=1152921504606846976
def is (l:List Nat):PV:=.sl (l.map fun x=>[.v (.int .i64 (x:Nat))]) .sh
attribute [go_sem] is
theorem SzK.hl {k:List Fg} (hz:SzK k):HlK k:=fun f hf e he=>Nat.le_trans ((hz.2 f hf).2.2 e he) (by omega)
end Go.Proofs.YtonhfknjcbakiaaDoor
namespace Go.Proofs.YtonhfknjcbakiaaDoor
open Go.RowKit
attribute [-go_sem] z7
structure AddOk (o:List Fg) (f:Fg):Prop where
 gi:GrpI o
 fo:OkG f
 l:o.length<=1048576
 fi:f.items.length<=100000000
 oi:∀ g ∈ o,g.items.length<=100000000
 bd:∀ e ∈ f.vec,ZL e
 bo:∀ g ∈ o,∀ e ∈ g.vec,ZL e
 nf:(zv f.vec).length<=1073741824
 no:∀ g ∈ o,(zv g.vec).length<=1073741824
theorem xL {D:Nat->Nat->Prop} {w:World} {v:Value} {l:List En} (h:Dat D w v (vp l)):∃ ad cap,v=.slice ad l.length cap:=by
 have h':Dat D w v (.sl (l.map ec) .sh):=h
 obtain⟨ad,cap,sz,b,off,f,e1,_⟩:=(Rel.dat (ρ:=fun _=>0) (nb:=0) h').inv_sl
 rw [List.length_map] at e1
 exact⟨ad,cap,e1⟩
end Go.Proofs.YtonhfknjcbakiaaDoor
namespace Go.Proofs.YtonhfknjcbakiaaDoor
open Go.RowKit
def qE:List Fg->Nat
 | []=>0
 | f::k=>f.items.length+qE k
theorem kK:∀(a b:List Fg),qE (a++b)=qE a+qE b
 | [],b=>by simp [qE]
 | f::a,b=>by simp only [List.cons_append,qE,kK a b];omega
theorem yv:∀ {k:List Fg} {f:Fg},f ∈ k->f.items.length<=qE k
 | g::k,f,h=>by
   rcases List.mem_cons.1 h with rfl | h
   ·simp only [qE];omega
   ·have:=yv h;simp only [qE];omega
theorem YO:∀ k:List Fg,(CI k).length<=2 * qE k
 | []=>by simp [CI,qE]
 | f::k=>by
   have h1:=YO k
   have h2:=vq f.items
   have:CI (f::k)=z6 f.items++CI k:=rfl
   rw [this,List.length_append,qE];omega
theorem Zf (V:Iv->List En):∀ l:List Iv,qE (l.map fun s=>⟨[s],V s⟩)=l.length
 | []=>rfl
 | s::l=>by rw [List.map_cons,qE,Zf V l];simp;omega
end Go.Proofs.YtonhfknjcbakiaaDoor
