import Derived.Maps.Own
import Derived.Maps.OwnIn
import Derived.Maps.Views
import Derived.Maps.RangeWalk
import Derived.Deep.LoopGhost
import Derived.Shelf.Spec.SlicesInsertGrow
import Derived.Test.YtonhfknjcbakiaaDoorB20
import Derived.Test.YtonhfknjcbakiaaDoorB28
set_option linter.unusedVariables false
set_option linter.unusedSimpArgs false
set_option maxRecDepth 100000
namespace Go.Proofs.YtonhfknjcbakiaaDoor
open Go.RowKit Go.Maps
abbrev DV:=DataW Value
def rV (v:Value):Option (DV × List MemPlace):=some (.held v,[])
def zP:Value:=.agg #[.slice none 0 0,.slice none 0 0]
def kR (r:Nat):Lit:=.int .u64 (r:Nat)
theorem Qc (r:Nat):WideAt.IsKeyLit (kR r):=trivial
theorem Xa {r s:Nat} (h:kR r=kR s):r=s:=by
 unfold kR at h
 injection h with _ h
 omega
def DL (C:Nat->Nat->Prop) (mb:Nat) (w:World):Nat->Nat->Prop:=fun b o=>C b o\/(mb<b/\b<w.heap.size)
def rdF (C:Nat->Nat->Prop) (w:World) (b o:Nat) (e:En):Prop:=w.cell? ⟨b,o,none⟩=some (.int .u64 e.rep)/\w.cell? ⟨b,o+1,none⟩=some (.int .u64 e.max)/\(∃ hv,w.cell? ⟨b,o+2,none⟩=some hv/\Dat C w hv (rg e.holes))/\e.rep<zk/\e.max<zk
def RdF (C:Nat->Nat->Prop) (n0:Nat) (w:World) (v:Value) (l:List En):Prop:=RdSl 3 (rdF C) 0 n0 w v l
theorem RdF.keep {C:Nat->Nat->Prop} {n0:Nat} {w w':World} {v:Value} {l:List En} (hC:∀ b o,C b o->b<n0) (h:RdF C n0 w v l) (hb:∀ k,k<n0->w'.heap[k]? = w.heap[k]?):RdF C n0 w' v l:=
 RdSl.keep h (Nat.le_refl _) (Nat.le_refl _) fun b o x _ h2 ⟨c0,c1,⟨hv,c2,c3⟩,c4⟩=>
  ⟨(World.cell?_of_block (a:=⟨b,o,none⟩) (hb b h2)).trans c0,(World.cell?_of_block (a:=⟨b,o+1,none⟩) (hb b h2)).trans c1,⟨hv,(World.cell?_of_block (a:=⟨b,o+2,none⟩) (hb b h2)).trans c2,c3.mono (fun _ _ h=>h) fun b o x hD hx=>(World.cell?_of_block (a:=⟨b,o,none⟩) (hb b (hC b o hD))).trans hx⟩,c4⟩
def PairD (C:Nat->Nat->Prop) (w:World) (mb:Nat) (D:DV) (dom:List Nat) (f0 f1:Nat->List Iv):Prop:=
 IsMap D/\∀ r,has D (kR r)=decide (r ∈ dom)/\∃ s0 s1,D.atKey (kR r) (.held zP)=.held (.agg #[s0,s1])/\Dat (DL C mb w) w s0 (rg (f0 r))/\Dat (DL C mb w) w s1 (rg (f1 r))
theorem KN {D:Nat->Nat->Prop} {w:World}:Dat D w (.slice none 0 0) (rg []):=.sl none 0 2 [] .sh 0 0 (fun _=>undef) (by simp) (fun h=>by cases h) (by decide) (fun h=>absurd rfl h) (fun i e h=>by simp at h) (fun j h=>by simp at h) (fun i e j p h=>by simp at h)
theorem PairD.start (C:Nat->Nat->Prop) (w:World) (mb:Nat):PairD C w mb (.map []) [] (fun _=>[]) (fun _=>[]):=
 ⟨⟨[],rfl⟩,fun r=>⟨by simp [has],_,_,rfl,KN,KN⟩⟩
theorem PairD.mono {C:Nat->Nat->Prop} {w w':World} {mb:Nat} {D:DV} {dom:List Nat} {f0 f1:Nat->List Iv} (hC:∀ b o,C b o->b<mb) (h:PairD C w mb D dom f0 f1) (hs:w.heap.size<=w'.heap.size) (hb:∀ k,k<w.heap.size->k≠mb->w'.heap[k]? = w.heap[k]?):PairD C w' mb D dom f0 f1:=by
 refine⟨h.1,fun r=>⟨(h.2 r).1,?_⟩⟩
 obtain⟨s0,s1,e,d0,d1⟩:=(h.2 r).2
 have hw:∀ b o x,DL C mb w b o->w.cell? ⟨b,o,none⟩=some x->w'.cell? ⟨b,o,none⟩=some x:=fun b o x hD hx=>
  (World.cell?_of_block (a:=⟨b,o,none⟩) (hb b (World.block_lt_of_cell? w ⟨b,o,none⟩ hx) (by rcases hD with hD | hD;have:=hC b o hD;omega;omega))).trans hx
 have hD:∀ b o,DL C mb w b o->DL C mb w' b o:=fun b o hD=>hD.imp id fun h=>⟨h.1,Nat.lt_of_lt_of_le h.2 hs⟩
 exact⟨s0,s1,e,d0.mono hD hw,d1.mono hD hw⟩
def SmV (v:List En):Prop:=RightV v/\v.length<=1048576/\∀ e ∈ v,e.holes.length<=10000
end Go.Proofs.YtonhfknjcbakiaaDoor
namespace Go.Proofs.YtonhfknjcbakiaaDoor
open Go.RowKit Go.Maps
attribute [-go_sem] z7
theorem zK {D:Nat->Nat->Prop} {w:World} {v:Value} {l:List Iv} (h:Dat D w v (rg l)):∃ ad cap,v=.slice ad l.length cap:=by
 have h':Dat D w v (.sl (l.map Q2) .sh):=h
 obtain⟨ad,cap,sz,b,off,f,e1,_⟩:=(Rel.dat (ρ:=fun _=>0) (nb:=0) h').inv_sl
 rw [List.length_map] at e1
 exact⟨ad,cap,e1⟩
theorem yg {w w':World} {b n:Nat} {D:DV} (h:w.ownsMap Tryd.prog 28 rV b n D) (hb:w'.heap[b]? = w.heap[b]?):w'.ownsMap Tryd.prog 28 rV b n D:=by
 obtain⟨es,clock,h1,r⟩:=h
 exact⟨es,clock,hb.trans h1,r⟩
theorem zW {w:World} {g:Nat} {cs:Array Value} {t:TypeId} (h:w.heap[g]? = some (.cells cs t (0,0))) (i:Nat) (v:Value) (hv:cs[i]? = some v):w.cell? ⟨g,i,none⟩=some v/\w.frozen? ⟨g,i,none⟩=false:=by
 constructor
 ·simp [World.cell?,h,hv]
 ·simp [World.frozen?,h]
end Go.Proofs.YtonhfknjcbakiaaDoor
namespace Go.Proofs.YtonhfknjcbakiaaDoor
open Go.RowKit Go.Lib
attribute [-go_sem] z7
def uV (r:Nat):Value:=.int .u64 (r:Nat)
def OwnU (base:Nat) (w:World) (v:Value) (l:List Nat):Prop:=w.ownsRow base 28 1 v l.length (l.map uV)
theorem jW (w:World) (r:Option Nat):w.grownBy w r:=⟨rfl,rfl,rfl,Nat.le_refl _,fun _ _ _=>rfl⟩
theorem Vf:(Tryd.prog.info? 28).map (fun i=>(i.zero,i.size,i.bytes))=some (some (.int .u64 0),1,8):=by kernel_rfl
theorem OwnU.cases {base:Nat} {w:World} {v:Value} {l:List Nat} (h:OwnU base w v l):(v=.slice none 0 0/\l=[]) \/
 ∃ g cap cur,v=.slice (some ⟨g,0,none⟩) l.length cap/\base<=g/\g<w.heap.size/\w.heap[g]? = some (.cells cur 28 (0,0))/\l.length<=cap/\cap<=maxLen/\cur.size=cap/\cur.toList.take l.length=l.map uV:=by
 rcases h.2 with⟨h1,h2⟩ | ⟨g,cap,cur,h1,h2,h3,h4,h5,h6,h7⟩
 ·exact .inl ⟨h1,List.length_eq_zero_iff.1 h2⟩
 ·exact .inr ⟨g,cap,cur,h1,h2,(Array.getElem?_eq_some_iff.1 h3).1,h3,h4,h5,by omega,by rwa [Nat.mul_one] at h7⟩
end Go.Proofs.YtonhfknjcbakiaaDoor
namespace Go.Proofs.YtonhfknjcbakiaaDoor
open Go.RowKit
def DX (C:Nat->Nat->Prop) (mb:Nat) (w:World) (v:Value):Nat->Nat->Prop:=fun b o=>DL C mb w b o/\v.ownBlock≠some b
def OutE (C:Nat->Nat->Prop) (mb base:Nat) (w:World) (v:Value) (es:List En):Prop:=
 ∃ xs,w.ownsRow base 32 3 v es.length xs/\∀ i (h:i<es.length),xs[i * 3]? = some (uV es[i].rep)/\xs[i * 3+1]? = some (uV es[i].max)/\∃ hv,xs[i * 3+2]? = some hv/\Dat (DX C mb w v) w hv (rg es[i].holes)/\MuI (fun b=>(base<=b/\b<w.heap.size)/\v.ownBlock≠some b) w hv
theorem OutE.start (C:Nat->Nat->Prop) (mb base:Nat) (w:World):OutE C mb base w (.slice none 0 0) []:=⟨[],World.ownsRow_nil _ _ _ _,fun i h=>absurd h (by simp)⟩
theorem OutE.owns {C:Nat->Nat->Prop} {mb base:Nat} {w:World} {v:Value} {es:List En} (h:OutE C mb base w v es):∀ k,v.ownBlock=some k->base<=k/\k<w.heap.size:=by
 obtain⟨xs,h1,_⟩:=h
 exact h1.lt
theorem DX.keep {C:Nat->Nat->Prop} {mb:Nat} {w w':World} {v:Value} {x:Value} {p:PV} (h:Dat (DX C mb w v) w x p) (hs:w.heap.size<=w'.heap.size) (hb:∀ k,k<w.heap.size->v.ownBlock≠some k->w'.heap[k]? = w.heap[k]?):Dat (DX C mb w' v) w' x p:=
 h.mono (fun b o h=>⟨h.1.imp id fun h=>⟨h.1,Nat.lt_of_lt_of_le h.2 hs⟩,h.2⟩) fun b o x h hx=>(World.cell?_of_block (a:=⟨b,o,none⟩) (hb b (World.block_lt_of_cell? w ⟨b,o,none⟩ hx) h.2)).trans hx
theorem OutE.keep {C:Nat->Nat->Prop} {mb base:Nat} {w w':World} {v:Value} {es:List En} (h:OutE C mb base w v es) (hs:w.heap.size<=w'.heap.size) (hb:∀ k,k<w.heap.size->w'.heap[k]? = w.heap[k]?):OutE C mb base w' v es:=by
 obtain⟨xs,h1,h2⟩:=h
 refine⟨xs,⟨h1.1,?_⟩,fun i hi=>?_⟩
 ·rcases h1.2 with h | ⟨g,cap,cur,e,hg,hc,r⟩
  ·exact .inl h
  ·exact .inr ⟨g,cap,cur,e,hg,(hb g (Array.getElem?_eq_some_iff.1 hc).1).trans hc,r⟩
 ·obtain⟨a,b,hv,c,d,m⟩:=h2 i hi
  exact⟨a,b,hv,c,DX.keep d hs fun k hk _=>hb k hk,(m.same fun b _ hb'=>hb b hb').mono fun b h=>⟨⟨h.1.1,Nat.lt_of_lt_of_le h.1.2 hs⟩,h.2⟩⟩
theorem OutE.push {C:Nat->Nat->Prop} {mb base:Nat} {w w':World} {v v':Value} {es:List En} {e:En} {xs:List Value} {hv:Value} (h2:∀ i (h:i<es.length),xs[i * 3]? = some (uV es[i].rep)/\xs[i * 3+1]? = some (uV es[i].max)/\∃ hv,xs[i * 3+2]? = some hv/\Dat (DX C mb w v) w hv (rg es[i].holes)/\MuI (fun b=>(base<=b/\b<w.heap.size)/\v.ownBlock≠some b) w hv)
 (h1:w.ownsRow base 32 3 v es.length xs) (hd:Dat (DX C mb w v) w hv (rg e.holes)) (hm:MuI (fun b=>(base<=b/\b<w.heap.size)/\v.ownBlock≠some b) w hv) (hC:∀ b o,C b o->b<mb) (hmb:mb<w.heap.size) (ho:w'.ownsRow base 32 3 v' (es.length+1) (xs++[uV e.rep,uV e.max,hv])) (hg:w.grownBy w' v.ownBlock) (hv':v'.ownBlock=v.ownBlock\/v'.ownBlock=some w.heap.size) :
 OutE C mb base w' v' (es++[e]):=by
 have key:∀ {x:Value} {p:PV},Dat (DX C mb w v) w x p->Dat (DX C mb w' v') w' x p:=fun {x p} h=>
  h.mono (fun b o h=>⟨h.1.imp id fun h=>⟨h.1,Nat.lt_of_lt_of_le h.2 hg.size⟩,fun e=>by
   rcases hv' with hv' | hv'
   ·exact h.2 (hv'.symm.trans e)
   ·rw [hv'] at e
    cases e
    rcases h.1 with h | h
    ·have:=hC _ _ h;omega
    ·omega⟩) fun b o x h hx=>(World.cell?_of_block (a:=⟨b,o,none⟩) (hg.block b (World.block_lt_of_cell? w ⟨b,o,none⟩ hx) fun e=>h.2 e.symm)).trans hx
 have key2:∀ {x:Value},MuI (fun b=>(base<=b/\b<w.heap.size)/\v.ownBlock≠some b) w x->MuI (fun b=>(base<=b/\b<w'.heap.size)/\v'.ownBlock≠some b) w' x:=fun h=>
  (h.same (w':=w') fun b hb hlt=>hg.block b hlt fun e=>hb.2 e.symm).mono fun b h=>⟨⟨h.1.1,Nat.lt_of_lt_of_le h.1.2 hg.size⟩,fun e=>by
    rcases hv' with hv' | hv'
    ·exact h.2 (hv'.symm.trans e)
    ·rw [hv'] at e
     cases e
     exact absurd h.1.2 (Nat.lt_irrefl _)⟩
 have hl:=h1.1
 refine⟨xs++[uV e.rep,uV e.max,hv],by simpa using ho,fun i hi=>?_⟩
 simp only [List.length_append,List.length_cons,List.length_nil,Nat.zero_add] at hi
 by_cases hlt:i<es.length
 ·obtain⟨a,b,hv,c,d,m⟩:=h2 i hlt
  rw [List.getElem_append_left hlt]
  refine⟨?_,?_,hv,?_,key d,key2 m⟩
  ·rw [List.getElem?_append_left (by omega)];exact a
  ·rw [List.getElem?_append_left (by omega)];exact b
  ·rw [List.getElem?_append_left (by omega)];exact c
 ·obtain rfl:i=es.length:=by omega
  rw [List.getElem_append_right (Nat.le_refl _)]
  simp only [Nat.sub_self,List.getElem_cons_zero]
  refine⟨?_,?_,hv,?_,key hd,key2 hm⟩
  ·rw [List.getElem?_append_right (by omega),show es.length * 3 - xs.length=0 by omega];rfl
  ·rw [List.getElem?_append_right (by omega),show es.length * 3+1 - xs.length=1 by omega];rfl
  ·rw [List.getElem?_append_right (by omega),show es.length * 3+2 - xs.length=2 by omega];rfl
theorem OutE.mu {C:Nat->Nat->Prop} {mb base:Nat} {w:World} {v:Value} {es:List En} (h:OutE C mb base w v es):MuE (base<=·) w v:=by
 obtain⟨xs,h1,h2⟩:=h
 rcases h1.2 with⟨rfl,h0⟩ | ⟨g,cap,cur,rfl,hg,hc,hn,hm,hs,ht⟩
 ·exact⟨0,MuR.nil⟩
 ·refine⟨es.length,some ⟨g,0,none⟩,cap,rfl,hn,hm,fun _=>⟨g,0,rfl,fun j hj=>?_⟩⟩
  have key:∀ i x,xs[i]? = some x->w.cell? ⟨g,i,none⟩=some x/\w.frozen? ⟨g,i,none⟩=false:=fun i x hx=>by
   rw [<-ht] at hx
   have hx':cur[i]? = some x:=by
    rw [List.getElem?_take] at hx
    split at hx
    ·simpa using hx
    ·cases hx
   simp [World.cell?,World.frozen?,hc,hx']
  obtain⟨a,b,hv,c,_,m⟩:=h2 j hj
  simp only [Nat.zero_add]
  exact⟨⟨hg,_,(key _ _ a).1,(key _ _ a).2⟩,⟨hg,_,(key _ _ b).1,(key _ _ b).2⟩,hv,(key _ _ c).1,m.mono fun b h=>h.1.1⟩
theorem Ki {D:Nat->Nat->Prop} {w:World} {v:Value} {l:List Iv} (h:Dat D w v (rg l)):v.oneCell'=true:=by
 obtain⟨ad,cap,rfl⟩:=zK h
 rfl
theorem OutE.dat {C:Nat->Nat->Prop} {mb base:Nat} {w:World} {v:Value} {es:List En} (h:OutE C mb base w v es) (hb:mb<base):Dat (DL C mb w) w v (vp es):=by
 obtain⟨xs,h1,h2⟩:=h
 rcases h1.2 with⟨rfl,h0⟩ | ⟨g,cap,cur,rfl,hg,hc,hn,hm,hs,ht⟩
 ·obtain rfl:=List.length_eq_zero_iff.1 h0
  exact .sl none 0 3 [] .sh 0 0 (fun _=>undef) (by simp) (fun h=>by cases h) (by decide) (fun h=>absurd rfl h) (fun i e h=>by simp at h) (fun j h=>by simp at h) (fun i e j p h=>by simp at h)
 ·have hlt:=(Array.getElem?_eq_some_iff.1 hc).1
  have cells:∀ j x,xs[j]? = some x->w.cell? ⟨g,j,none⟩=some x:=fun j x hx=>by
   have:=h1.cells (g:=g) rfl j x hx
   rw [zh,Nat.zero_add] at this
   exact this
  have hcell:∀ i (h:i<es.length) j p,(ec es[i])[j]? = some p->∃ x,xs[i * 3+j]? = some x/\Dat (DL C mb w) w x p/\x.oneCell'=true:=fun i h j p hp=>by
   obtain⟨a,b,hv,c,d,_⟩:=h2 i h
   match j,hp with
   | 0,hp=>cases hp;exact⟨_,a,.v _,rfl⟩
   | 1,hp=>cases hp;exact⟨_,b,.v _,rfl⟩
   | 2,hp=>cases hp;exact⟨_,c,d.mono (fun _ _ h=>h.1) fun _ _ _ _ h=>h,Ki d⟩
   | j+3,hp=>simp [ec] at hp
  have hmap:∀(i:Nat) (e:List PV),(es.map ec)[i]? = some e->∃ h:i<es.length,e=ec es[i]:=fun i e he=>by
   rw [List.getElem?_map] at he
   obtain⟨x,hx,rfl⟩:=Option.map_eq_some_iff.1 he
   obtain⟨h,rfl⟩:=List.getElem?_eq_some_iff.1 hx
   exact⟨h,rfl⟩
  have hlen:(es.map ec).length=es.length:=List.length_map _
  unfold vp
  rw [<-hlen]
  refine .sl (some ⟨g,0,none⟩) cap 3 (es.map ec) .sh g 0 (fun j=>(xs[j]?).getD undef) (by rw [hlen];exact hn) (fun h=>by cases h) hm (fun _=>rfl) (fun i e he=>?_) (fun j hj=>?_) (fun i e j p he hp=>?_)
  ·obtain⟨h,rfl⟩:=hmap i e he
   rfl
  ·rw [hlen] at hj
   have hi:j / 3<es.length:=by omega
   have h3:j % 3<(ec es[j / 3]).length:=Nat.mod_lt _ (by decide)
   obtain⟨x,hx,_,ho⟩:=hcell (j / 3) hi (j % 3) ((ec es[j / 3])[j % 3]) (List.getElem?_eq_getElem h3)
   rw [show j / 3 * 3+j % 3=j by omega] at hx
   rw [Nat.zero_add]
   refine⟨.inr ⟨by omega,hlt⟩,?_,?_⟩
   ·rw [hx];exact cells j x hx
   ·rw [hx];exact ho
  ·obtain⟨h,rfl⟩:=hmap i e he
   obtain⟨x,hx,hd,_⟩:=hcell i h j p hp
   rw [hx]
   exact hd
end Go.Proofs.YtonhfknjcbakiaaDoor
