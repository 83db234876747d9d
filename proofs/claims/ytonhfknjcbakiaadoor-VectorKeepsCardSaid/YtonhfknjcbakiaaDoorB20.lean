import Derived.Test.YtonhfknjcbakiaaDoorB3
set_option linter.unusedVariables false
set_option linter.unusedSimpArgs false
set_option maxRecDepth 100000
namespace Go.Proofs.YtonhfknjcbakiaaDoor
open Go.RowKit
structure Kd (base:Nat) (w w':World):Prop where
 below:Below base w w'
 cell:∀ a v,w.cell? a=some v->∃ v',w'.cell? a=some v'/\(v'=v\/((∃ m,v=.int .u64 m)/\∃ m',v'=.int .u64 m'))
 frz:∀ a v,w.cell? a=some v->w'.frozen? a=w.frozen? a
theorem Kd.refl (base:Nat) (w:World):Kd base w w:=⟨Below.refl _ _,fun a v h=>⟨v,h,.inl rfl⟩,fun _ _ _=>rfl⟩
theorem Kd.trans {base:Nat} {w w1 w2:World} (h:Kd base w w1) (g:Kd base w1 w2):Kd base w w2:=by
 refine⟨h.below.trans g.below,fun a v hv=>?_,fun a v hv=>?_⟩
 ·obtain⟨v1,h1,h2⟩:=h.cell a v hv
  obtain⟨v2,g1,g2⟩:=g.cell a v1 h1
  refine⟨v2,g1,?_⟩
  rcases g2 with rfl | ⟨⟨m,hm⟩,g2⟩
  ·exact h2
  ·rcases h2 with rfl | ⟨h2,_⟩
   ·exact .inr ⟨⟨m,hm⟩,g2⟩
   ·exact .inr ⟨h2,g2⟩
 ·obtain⟨v1,h1,_⟩:=h.cell a v hv
  exact(g.frz a v1 h1).trans (h.frz a v hv)
theorem Kd.of_below {base:Nat} {w w':World} (h:Below w.heap.size w w') (hb:base<=w.heap.size):Kd base w w':=by
 refine⟨h.mono hb,fun a v hv=>?_,fun a v hv=>?_⟩
 ·have hlt:=World.block_lt_of_cell? _ _ hv
  exact⟨v,(World.cell?_of_block (h.block _ hlt)).trans hv,.inl rfl⟩
 ·have hlt:=World.block_lt_of_cell? _ _ hv
  unfold World.frozen?
  rw [h.block _ hlt]
theorem Kd.alloc {base:Nat} {w w1:World} (h:Kd base w w1) (hb:base<=w1.heap.size) (o:Obj):Kd base w (w1.alloc o):=
 h.trans (Kd.of_below ((Below.refl _ w1).alloc (Nat.le_refl _) o) hb)
theorem Kd.set {base:Nat} {w w1:World} (h:Kd base w w1) {b o:Nat} {m:Int} (hb:base<=b) (hc:w1.cell? ⟨b,o,none⟩=some (.int .u64 m)) (x:Int):Kd base w (w1.setCell ⟨b,o,none⟩ (.int .u64 x)):=by
 refine h.trans ⟨(Below.refl _ w1).setCell hb _,fun a v hv=>?_,fun a v _=>?_⟩
 ·by_cases e:a=⟨b,o,none⟩
  ·subst e
   rw [hc] at hv
   cases hv
   exact⟨_,World.cell?_setCell_same _ _ _ hc,.inr ⟨⟨m,rfl⟩,x,rfl⟩⟩
  ·exact⟨v,(World.cell?_setCell_other _ _ _ _ (Ne.symm e)).trans hv,.inl rfl⟩
 ·simp
theorem Kd.keep {base:Nat} {w w':World} (h:Kd base w w') {a:Addr} {v:Value} (hv:w.cell? a=some v) (hn:∀ m,v≠.int .u64 m):w'.cell? a=some v:=by
 obtain⟨v',h1,h2⟩:=h.cell a v hv
 rcases h2 with rfl | ⟨⟨m,hm⟩,_⟩
 ·exact h1
 ·exact absurd hm (hn m)
theorem Kd.num {base:Nat} {w w':World} (h:Kd base w w') {a:Addr} {m:Int} (hv:w.cell? a=some (.int .u64 m)) (hf:w.frozen? a=false):∃ m',w'.cell? a=some (.int .u64 m')/\w'.frozen? a=false:=by
 obtain⟨v',h1,h2⟩:=h.cell a _ hv
 refine(show ∃ m',v'=.int .u64 m' from ?_).elim fun m' e=>⟨m',e ▸ h1,(h.frz a _ hv).trans hf⟩
 rcases h2 with rfl | ⟨_,m',e⟩
 ·exact⟨m,rfl⟩
 ·exact⟨m',e⟩
def NumAt (S:Nat->Prop) (w:World) (b o:Nat):Prop:=S b/\∃ m,w.cell? ⟨b,o,none⟩=some (.int .u64 m)/\w.frozen? ⟨b,o,none⟩=false
def MuR (f:Nat->Nat->Prop) (sz:Nat) (v:Value) (n:Nat):Prop:=∃ a cap,v=.slice a n cap/\n<=cap/\cap<=maxLen/\(n≠0->∃ b off,a=some ⟨b,off,none⟩/\∀ j,j<n->f b (off+j * sz))
def MuI (S:Nat->Prop) (w:World) (v:Value):Prop:=∃ n,MuR (fun b o=>NumAt S w b o/\NumAt S w b (o+1)) 2 v n
def MuE (S:Nat->Prop) (w:World) (v:Value):Prop:=∃ n,MuR (fun b o=>NumAt S w b o/\NumAt S w b (o+1)/\∃ h,w.cell? ⟨b,o+2,none⟩=some h/\MuI S w h) 3 v n
def MuF (S:Nat->Prop) (w:World) (v:Value):Prop:=∃ n,MuR (fun b o=>(∃ h,w.cell? ⟨b,o,none⟩=some h/\MuI S w h)/\∃ h,w.cell? ⟨b,o+1,none⟩=some h/\MuE S w h) 2 v n
theorem MuR.imp {f g:Nat->Nat->Prop} {sz n:Nat} {v:Value} (h:MuR f sz v n) (hi:∀ b o,f b o->g b o):MuR g sz v n:=by
 obtain⟨a,cap,h1,h2,h3,h4⟩:=h
 refine⟨a,cap,h1,h2,h3,fun hn=>?_⟩
 obtain⟨b,off,e,h5⟩:=h4 hn
 exact⟨b,off,e,fun j hj=>hi _ _ (h5 j hj)⟩
theorem MuR.nil {f:Nat->Nat->Prop} {sz:Nat}:MuR f sz (.slice none 0 0) 0:=⟨none,0,rfl,Nat.le_refl _,by decide,fun h=>absurd rfl h⟩
section
variable {S T:Nat->Prop} {base b o:Nat} {w w':World} {v:Value}
theorem NumAt.kd (h:NumAt S w b o) (k:Kd base w w'):NumAt S w' b o:=⟨h.1,by
 obtain⟨_,m,h1,h2⟩:=h
 exact k.num h1 h2⟩
theorem NumAt.mono (h:NumAt S w b o) (hS:∀ b,S b->T b):NumAt T w b o:=⟨hS _ h.1,h.2⟩
theorem NumAt.same (h:NumAt S w b o) (hb:∀ b,S b->b<w.heap.size->w'.heap[b]? = w.heap[b]?):NumAt S w' b o:=⟨h.1,by
 obtain⟨h0,m,h1,h2⟩:=h
 have e:=hb b h0 (World.block_lt_of_cell? _ _ h1)
 exact⟨m,(World.cell?_of_block (a:=⟨b,o,none⟩) e).trans h1,by simp only [World.frozen?,e] at h2 ⊢;exact h2⟩⟩
theorem MuI.kd (h:MuI S w v) (k:Kd base w w'):MuI S w' v:=
 h.imp fun _ h=>h.imp fun _ _ h=>⟨h.1.kd k,h.2.kd k⟩
theorem MuI.mono (h:MuI S w v) (hS:∀ b,S b->T b):MuI T w v:=
 h.imp fun _ h=>h.imp fun _ _ h=>⟨h.1.mono hS,h.2.mono hS⟩
theorem MuI.same (h:MuI S w v) (hb:∀ b,S b->b<w.heap.size->w'.heap[b]? = w.heap[b]?):MuI S w' v:=
 h.imp fun _ h=>h.imp fun _ _ h=>⟨h.1.same hb,h.2.same hb⟩
theorem MuI.slice (h:MuI S w v):∀ m,v≠.int .u64 m:=by
 obtain⟨n,a,cap,rfl,_⟩:=h
 intro m e
 cases e
theorem MuE.slice (h:MuE S w v):∀ m,v≠.int .u64 m:=by
 obtain⟨n,a,cap,rfl,_⟩:=h
 intro m e
 cases e
theorem MuE.kd (h:MuE S w v) (k:Kd base w w'):MuE S w' v:=
 h.imp fun _ h=>h.imp fun _ _ h=>⟨h.1.kd k,h.2.1.kd k,h.2.2.imp fun _ g=>⟨k.keep g.1 g.2.slice,g.2.kd k⟩⟩
theorem MuE.mono (h:MuE S w v) (hS:∀ b,S b->T b):MuE T w v:=
 h.imp fun _ h=>h.imp fun _ _ h=>⟨h.1.mono hS,h.2.1.mono hS,h.2.2.imp fun _ g=>⟨g.1,g.2.mono hS⟩⟩
theorem MuE.same (h:MuE S w v) (hb:∀ b,S b->b<w.heap.size->w'.heap[b]? = w.heap[b]?):MuE S w' v:=
 h.imp fun _ h=>h.imp fun b _ h=>⟨h.1.same hb,h.2.1.same hb,h.2.2.imp fun _ g=>⟨(World.cell?_of_block (hb b h.1.1 (World.block_lt_of_cell? _ _ g.1))).trans g.1,g.2.same hb⟩⟩
theorem MuF.kd (h:MuF S w v) (k:Kd base w w'):MuF S w' v:=
 h.imp fun _ h=>h.imp fun _ _ h=>⟨h.1.imp fun _ g=>⟨k.keep g.1 g.2.slice,g.2.kd k⟩,h.2.imp fun _ g=>⟨k.keep g.1 g.2.slice,g.2.kd k⟩⟩
end
theorem OwnR.mu {base:Nat} {w:World} {v:Value} {l:List Iv} (h:OwnR base w v l):MuI (fun b=>base<=b/\b<w.heap.size) w v:=by
 obtain⟨ho,_⟩:=h
 rcases ho.2 with⟨rfl,h0⟩ | ⟨g,cap,cur,rfl,hg,hc,hn,hm,hs,ht⟩
 ·exact⟨0,MuR.nil⟩
 ·refine⟨l.length,some ⟨g,0,none⟩,cap,rfl,hn,hm,fun _=>⟨g,0,rfl,fun j hj=>?_⟩⟩
  have key:∀ i x,(xw l)[i]? = some x->w.cell? ⟨g,i,none⟩=some x/\w.frozen? ⟨g,i,none⟩=false:=fun i x hx=>by
   rw [<-ht] at hx
   have hx':cur[i]? = some x:=by
    rw [List.getElem?_take] at hx
    split at hx
    ·simpa using hx
    ·cases hx
   simp [World.cell?,World.frozen?,hc,hx']
  obtain⟨f1,f2⟩:=vz l j hj
  obtain⟨a1,a2⟩:=key _ _ f1
  obtain⟨b1,b2⟩:=key _ _ f2
  simp only [Nat.zero_add]
  have hgl:=(Array.getElem?_eq_some_iff.1 hc).1
  exact⟨⟨⟨hg,hgl⟩,_,a1,a2⟩,⟨hg,hgl⟩,_,b1,b2⟩
end Go.Proofs.YtonhfknjcbakiaaDoor
