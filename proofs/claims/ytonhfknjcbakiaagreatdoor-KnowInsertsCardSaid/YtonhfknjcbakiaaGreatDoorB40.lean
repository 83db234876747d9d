import Derived.Maps.Own
import Derived.Maps.OwnIn
import Derived.Maps.Views
import Derived.Maps.RangeWalk
import Derived.Deep.LoopGhost
import Derived.Shelf.Spec.SlicesInsertGrow
import Derived.Test.YtonhfknjcbakiaaGreatDoorB35
set_option maxHeartbeats 16000000
set_option linter.unusedVariables false
set_option linter.unusedSimpArgs false
set_option maxRecDepth 100000
namespace Go.Proofs.YtonhfknjcbakiaaGreatDoor
open Go.RowKit Go.Maps
abbrev DV:=DataW Value
def rV (v:Value):Option (DV × List MemPlace):=some (.held v,[])
def zP:Value:=.agg #[.slice none 0 0,.slice none 0 0]
def kR (r:Nat):Lit:=.int .u64 (r:Nat)
theorem vF:Keyed Tryz.prog 24 := int_keyed Tryz.underlying24
theorem zeC (w:World):(zeroValue 200).run Tryz.prog w=.ok zP w:=by kernel_rfl
theorem Zq {r:Nat} (h:r<M64):keyOf Tryz.prog 24 (.int .u64 (r:Nat))=some (kR r):=by
 rw [zw] at h
 refine keyOf_int_mk Tryz.underlying24 ?_
 simp [Lit.wf,IntKind.min,IntKind.max,IntKind.signed,IntKind.bits]
 omega
theorem Qc (r:Nat):WideAt.IsKeyLit (kR r):=trivial
theorem Xa {r s:Nat} (h:kR r=kR s):r=s:=by
 unfold kR at h
 injection h with _ h
 omega
def DL (C:Nat->Nat->Prop) (a:Nat) (w:World):Nat->Nat->Prop:=fun b o=>C b o\/(a<b/\b<w.heap.size)
def rdF (C:Nat->Nat->Prop) (w:World) (b o:Nat) (e:En):Prop:=w.cell? ⟨b,o,none⟩=some (.int .u64 e.rep)/\w.cell? ⟨b,o+1,none⟩=some (.int .u64 e.max)/\(∃ a,w.cell? ⟨b,o+2,none⟩=some a/\Dat C w a (rg e.holes))/\e.rep<M64/\e.max<M64
def RdF (C:Nat->Nat->Prop) (a:Nat) (w:World) (v:Value) (l:List En):Prop:=RdSl 3 (rdF C) 0 a w v l
theorem RdF.keep {C:Nat->Nat->Prop} {j:Nat} {w w':World} {v:Value} {l:List En} (u:∀ b o,C b o->b<j) (h:RdF C j w v l) (hb:∀ k,k<j->w'.heap[k]? = w.heap[k]?):RdF C j w' v l:=
 RdSl.keep h (Nat.le_refl _) (Nat.le_refl _) fun b o x _ h2 ⟨c0,c1,⟨hv,c2,c3⟩,c4⟩=>
  ⟨(World.cell?_of_block (a:=⟨b,o,none⟩) (hb b h2)).trans c0,(World.cell?_of_block (a:=⟨b,o+1,none⟩) (hb b h2)).trans c1,⟨hv,(World.cell?_of_block (a:=⟨b,o+2,none⟩) (hb b h2)).trans c2,c3.mono (fun _ _ h=>h) fun b o x y A=>(World.cell?_of_block (a:=⟨b,o,none⟩) (hb b (u b o y))).trans A⟩,c4⟩
theorem KO {D:Nat->Nat->Prop} {w:World} {x:Value} {v:List En} (h:Dat D w x (vp v)) (J:∀ b o,D b o->b<w.heap.size) (hb:∀ e ∈ v,ZL e):RdF D w.heap.size w x v:=by
 unfold vp at h
 generalize F:v.map ec=es at h
 cases h with
 | sl a cap sz es o b off u hc hz hm ha hsz hd hx=>
   have hl:es.length=v.length:=by rw [<-F];simp
   refine⟨a,cap,by rw [hl],by omega,hm,fun B=>?_⟩
   have y:0<v.length:=List.length_pos_iff.2 B
   have g:∀ i (h:i<v.length),es[i]? = some (ec v[i]):=fun i h=>by rw [<-F];exact xo h
   obtain rfl:3=sz:=hsz 0 _ (g 0 y)
   have A:es≠[]:=by intro e;subst e;simp at hl;omega
   have j:b<w.heap.size:=J _ _ (hd 0 (by omega)).1
   refine⟨b,off,ha A,Nat.zero_le _,j,fun i hi=>?_⟩
   have I:=(hx i _ 0 _ (g i hi) rfl).v_inv
   have e1:=(hx i _ 1 _ (g i hi) rfl).v_inv
   have e2:=hx i _ 2 _ (g i hi) rfl
   have C:=(hd (i * 3+0) (by omega)).2.1
   have E:=(hd (i * 3+1) (by omega)).2.1
   have H:=(hd (i * 3+2) (by omega)).2.1
   rw [I] at C
   rw [e1] at E
   obtain⟨b1,b2,G⟩:=hb _ (List.getElem_mem hi)
   exact⟨C,E,⟨_,H,e2⟩,G,b2⟩
def PairD (C:Nat->Nat->Prop) (w:World) (j:Nat) (D:DV) (a:List Nat) (A B:Nat->List Iv):Prop:=
 IsMap D/\∀ r,has D (kR r)=decide (r ∈ a)/\∃ u y,D.atKey (kR r) (.held zP)=.held (.agg #[u,y])/\Dat (DL C j w) w u (rg (A r))/\Dat (DL C j w) w y (rg (B r))
theorem KN {D:Nat->Nat->Prop} {w:World}:Dat D w (.slice none 0 0) (rg []):=.sl none 0 2 [] .sh 0 0 (fun _=>undef) (by simp) (fun h=>by cases h) (by decide) (fun h=>absurd rfl h) (fun i e h=>by simp at h) (fun j h=>by simp at h) (fun i e j p h=>by simp at h)
theorem PairD.start (C:Nat->Nat->Prop) (w:World) (a:Nat):PairD C w a (.map []) [] (fun _=>[]) (fun _=>[]):=
 ⟨⟨[],rfl⟩,fun r=>⟨by simp [has],_,_,rfl,KN,KN⟩⟩
theorem PairD.mono {C:Nat->Nat->Prop} {w w':World} {u:Nat} {D:DV} {y:List Nat} {A B:Nat->List Iv} (H:∀ b o,C b o->b<u) (h:PairD C w u D y A B) (hs:w.heap.size<=w'.heap.size) (hb:∀ k,k<w.heap.size->k≠u->w'.heap[k]? = w.heap[k]?):PairD C w' u D y A B:=by
 refine⟨h.1,fun r=>⟨(h.2 r).1,?_⟩⟩
 obtain⟨I,J,e,d0,G⟩:=(h.2 r).2
 have E:∀ b o x,DL C u w b o->w.cell? ⟨b,o,none⟩=some x->w'.cell? ⟨b,o,none⟩=some x:=fun b o x j F=>
  (World.cell?_of_block (a:=⟨b,o,none⟩) (hb b (World.block_lt_of_cell? w ⟨b,o,none⟩ F) (by rcases j with j | j;have:=H b o j;omega;omega))).trans F
 have j:∀ b o,DL C u w b o->DL C u w' b o:=fun b o j=>j.imp id fun h=>⟨h.1,Nat.lt_of_lt_of_le h.2 hs⟩
 exact⟨I,J,e,d0.mono j E,G.mono j E⟩
theorem PairD.put0 {C:Nat->Nat->Prop} {w:World} {A:Nat} {D:DV} {j:List Nat} {E F:Nat->List Iv} (h:PairD C w A D j E F) {a:Nat} {l:List Iv} {s J B:Value} (hs:Dat (DL C A w) w s (rg l)) (I:D.atKey (kR a) (.held zP)=.held (.agg #[J,B])) :
 PairD C w A (D.put (kR a) (.held (.agg #[s,B]))) (j++[a]) (fun r=>if r=a then l else E r) F:=by
 refine⟨h.1.put _ _,fun r=>?_⟩
 by_cases e:r=a
 ·subst e
  obtain⟨G,H,e1,d0,y⟩:=(h.2 r).2
  rw [I] at e1
  cases e1
  exact⟨by rw [has_put_same h.1 (Qc _)];simp,s,B,atKey_put_same h.1 (Qc _) _ _,by dsimp only;rw [if_pos rfl];exact hs,y⟩
 ·have u:kR r≠kR a:=fun h=>e (Xa h)
  obtain⟨G,H,e1,d0,y⟩:=(h.2 r).2
  exact⟨by rw [has_put_other u,(h.2 r).1];simp [e],G,H,by rw [atKey_put_other u];exact e1,by dsimp only;rw [if_neg e];exact d0,y⟩
theorem PairD.put1 {C:Nat->Nat->Prop} {w:World} {y:Nat} {D:DV} {j:List Nat} {E F:Nat->List Iv} (h:PairD C w y D j E F) {a:Nat} {l:List Iv} {s A J:Value} (hs:Dat (DL C y w) w s (rg l)) (I:D.atKey (kR a) (.held zP)=.held (.agg #[A,J])) :
 PairD C w y (D.put (kR a) (.held (.agg #[A,s]))) (j++[a]) E (fun r=>if r=a then l else F r):=by
 refine⟨h.1.put _ _,fun r=>?_⟩
 by_cases e:r=a
 ·subst e
  obtain⟨G,H,e1,d0,B⟩:=(h.2 r).2
  rw [I] at e1
  cases e1
  exact⟨by rw [has_put_same h.1 (Qc _)];simp,A,s,atKey_put_same h.1 (Qc _) _ _,d0,by dsimp only;rw [if_pos rfl];exact hs⟩
 ·have u:kR r≠kR a:=fun h=>e (Xa h)
  obtain⟨G,H,e1,d0,B⟩:=(h.2 r).2
  exact⟨by rw [has_put_other u,(h.2 r).1];simp [e],G,H,by rw [atKey_put_other u];exact e1,d0,by dsimp only;rw [if_neg e];exact B⟩
theorem zc9 {v:List En} {e:En} (h:∀ f ∈ v,f.rep≠e.rep) (r:Nat):zT (v++[e]) r=if r=e.rep then kn e else zT v r:=by
 unfold zT
 rw [List.find?_append]
 by_cases a:r=e.rep
 ·subst a
  rw [if_pos rfl,show List.find? (fun f=>f.rep == e.rep) v=none from List.find?_eq_none.2 fun f j=>by simpa using h f j]
  simp
 ·rw [if_neg a]
  have:List.find? (fun f=>f.rep == r) [e]=none:=by simp;exact fun h=>a h.symm
  rw [this,Option.or_none]
theorem Vj {v:List En} (h:RightV v) {k:Nat} (hk:k<v.length):zT (v.take (k+1))=fun r=>if r=v[k].rep then kn v[k] else zT (v.take k) r:=by
 funext r
 rw [List.take_succ_eq_append_getElem hk]
 refine zc9 (fun f j=>?_) r
 obtain⟨i,hi,rfl⟩:=List.getElem_of_mem j
 have a:i<k:=by simp at hi;omega
 have:=List.pairwise_iff_getElem.1 h.2 i k (by omega) hk a
 simp only [List.getElem_take]
 omega
def SmV (v:List En):Prop:=RightV v/\v.length<=1048576/\∀ e ∈ v,e.holes.length<=10000
end Go.Proofs.YtonhfknjcbakiaaGreatDoor
namespace Go.Proofs.YtonhfknjcbakiaaGreatDoor
open Go.RowKit Go.Maps
attribute [-go_sem] nat_succ
theorem zkt (a y:Option Addr) (u B j A:Nat) (w:World):(Instr.index 239 (.agg #[.slice a u j,.slice y B A]) (.int .i64 0)).run Tryz.prog w=.ok (.slice a u j) w:=by kernel_rfl
theorem zku (y a:Option Addr) (B u A j:Nat) (w:World):(Instr.index 239 (.agg #[.slice y B A,.slice a u j]) (.int .i64 1)).run Tryz.prog w=.ok (.slice a u j) w:=by kernel_rfl
theorem zK {D:Nat->Nat->Prop} {w:World} {v:Value} {l:List Iv} (h:Dat D w v (rg l)):∃ j a,v=.slice j l.length a:=by
 have u:Dat D w v (.sl (l.map Q2) .sh):=h
 obtain⟨j,a,A,b,y,f,e1,_⟩:=(Rel.dat (ρ:=fun _=>0) (nb:=0) u).inv_sl
 rw [List.length_map] at e1
 exact⟨j,a,e1⟩
theorem yg {w j:World} {b n:Nat} {D:DV} (h:w.ownsMap Tryz.prog 24 rV b n D) (hb:j.heap[b]? = w.heap[b]?):j.ownsMap Tryz.prog 24 rV b n D:=by
 obtain⟨u,a,y,r⟩:=h
 exact⟨u,a,hb.trans y,r⟩
theorem Qf {w:World} {b n:Nat} {D:DV} (h:w.ownsMap Tryz.prog 24 rV b n D) {r:Nat} (B:r<M64) {j u:Value} (A:D.atKey (kR r) (.held zP)=.held (.agg #[j,u])) :
 (Instr.lookup 195 (.map (some b)) (.int .u64 (r:Nat)) false).run Tryz.prog w=.ok (.agg #[j,u]) w:=by
 obtain⟨v,C,y,a⟩:=h.lookup vF Tryz.underlying195 (zeC w) (zd:=.held zP) (zp:=[]) rfl (Zq B)
 rw [A] at a
 unfold rV at a
 cases a
 exact y
theorem zeI {D:Nat->Nat->Prop} {w:World} {e:En} {j:Option Addr} {u:Nat} (y:Dat D w (.slice j e.holes.length u) (rg e.holes)):Dat D w (.agg #[.int .u64 e.rep,.int .u64 e.max,.slice j e.holes.length u]) (ep e):=by
 refine .agg _ _ rfl (fun i hi=>?_) fun i p a=>?_
 ·match i,hi with
  | 0,_=>rfl
  | 1,_=>rfl
  | 2,_=>rfl
 ·match i,a with
  | 0,a=>cases a;exact .v _
  | 1,a=>cases a;exact .v _
  | 2,a=>cases a;exact y
theorem zaa {C:Nat->Nat->Prop} {w:World} {H:Nat} {e:En} {B:Option Addr} {E:Nat} (L:zO e) (hl:e.holes.length<=10000) (O:Dat C w (.slice B e.holes.length E) (rg e.holes)) (K:∀ b o,C b o->b<H) (N:H<=w.heap.size) (M:GL C w) :
 Calls Tryz.prog 85 #[.agg #[.int .u64 e.rep,.int .u64 e.max,.slice B e.holes.length E]] w fun F u=>∃ y a,F=.returned (.slice y (kn e).length a)/\Below w.heap.size w u/\Dat (fun b o=>C b o\/(w.heap.size<=b/\b<u.heap.size)) u (.slice y (kn e).length a) (rg (kn e)):=by
 refine((XZ e L (by omega)).2 C w _ M (fun b o h=>Nat.lt_of_lt_of_le (K b o h) N) rfl (fun i p j=>?_)).mono ?_
 ·match i,j with
  | 0,j=>cases j;exact zeI O
  | i+1,j=>simp at j
 ·rintro F u ⟨v,I,rfl,hb,T,Q,S,G,_⟩
  have A:Dat I u v (.sl ((kn e).map Q2) .sh):=G
  obtain⟨y,a,U,b,P,f,e1,_⟩:=(Rel.dat (ρ:=fun _=>0) (nb:=0) A).inv_sl
  rw [List.length_map] at e1
  subst e1
  exact⟨y,a,rfl,hb,G.mono (fun b o h=>(Q b o h).imp id fun J=>⟨J,S b o h⟩) fun _ _ _ _ h=>h⟩
theorem zW {w:World} {g:Nat} {a:Array Value} {t:TypeId} (h:w.heap[g]? = some (.cells a t (0,0))) (i:Nat) (v:Value) (j:a[i]? = some v):w.cell? ⟨g,i,none⟩=some v/\w.frozen? ⟨g,i,none⟩=false:=by
 constructor
 ·simp [World.cell?,h,j]
 ·simp [World.frozen?,h]
theorem zmT:(fun r=>zT [] r)=fun _=>[]:=rfl
theorem Qm {C:Nat->Nat->Prop} {w wr y I:World} {D:DV} {u:List Nat} {A B:Nat->List Iv} {e:En} {U V v:Value} {G H:Obj} (J:∀ b o,C b o->b<w.heap.size) (M:PairD C wr w.heap.size D u A B) (Q:D.atKey (kR e.rep) (.held zP)=.held (.agg #[U,V]))
 (P:Below w.heap.size w wr) (Z:w.heap.size<wr.heap.size) (E:Below ((wr.alloc G).alloc H).heap.size ((wr.alloc G).alloc H) y) (X:Dat (fun b o=>C b o\/(((wr.alloc G).alloc H).heap.size<=b/\b<y.heap.size)) y v (rg (kn e))) (j:Nat)
 (K:(y.setCell ⟨wr.heap.size+1,j,none⟩ v).grownBy I (some w.heap.size)) :
 PairD C I w.heap.size (D.put (kR e.rep) (.held (.agg #[v,V]))) (u++[e.rep]) (fun r=>if r=e.rep then kn e else A r) B /\
 PairD C I w.heap.size (D.put (kR e.rep) (.held (.agg #[U,v]))) (u++[e.rep]) A (fun r=>if r=e.rep then kn e else B r)/\Below w.heap.size w I:=by
 have hs:((wr.alloc G).alloc H).heap.size=wr.heap.size+2:=by simp
 have h3:wr.heap.size+2<=y.heap.size:=hs ▸ E.size
 have F:∀ k,k<wr.heap.size->(y.setCell ⟨wr.heap.size+1,j,none⟩ v).heap[k]? = wr.heap[k]?:=fun k hk=>by
  rw [Below.heap_setCell _ _ _ _ (by show k≠wr.heap.size+1;omega),E.block k (by omega),Below.heap_alloc _ _ _ (by simp;omega),Below.heap_alloc _ _ _ hk]
 have T:PairD C (y.setCell ⟨wr.heap.size+1,j,none⟩ v) w.heap.size D u A B:=M.mono J (by simp;omega) fun k hk _=>F k hk
 have O:Dat (DL C w.heap.size (y.setCell ⟨wr.heap.size+1,j,none⟩ v)) (y.setCell ⟨wr.heap.size+1,j,none⟩ v) v (rg (kn e)):=by
  refine X.mono (fun b o h=>h.imp id fun h=>⟨by omega,?_⟩) fun b o x h hx=>?_
  ·show b<(y.setCell ⟨wr.heap.size+1,j,none⟩ v).heap.size
   simp
   omega
  ·refine(World.cell?_of_block (a:=⟨b,o,none⟩) (Below.heap_setCell _ _ _ _ ?_)).trans hx
   show b≠wr.heap.size+1
   rcases h with h | h
   ·have:=J b o h
    omega
   ·omega
 have S:∀ {D:DV} {u:List Nat} {A B:Nat->List Iv},PairD C (y.setCell ⟨wr.heap.size+1,j,none⟩ v) w.heap.size D u A B->PairD C I w.heap.size D u A B:=fun h=>h.mono J K.size fun k hk L=>K.block k hk (by simpa using L)
 refine⟨S (T.put0 O Q),S (T.put1 O Q),?_⟩
 have N:Below w.heap.size w (y.setCell ⟨wr.heap.size+1,j,none⟩ v):=by
  refine Below.setCell ?_ (by show w.heap.size<=wr.heap.size+1;omega) _
  refine Below.trans ((P.alloc P.size G).alloc (by simp;omega) H) (E.mono (by omega))
 exact N.grown K N.size fun j Y=>by cases Y;exact Nat.le_refl _
theorem J4 (C:Nat->Nat->Prop) (a b:List En) (va vb:Value) (w:World) (ha:SmV a) (hb:SmV b) (ra:RdF C w.heap.size w va a) (rb:RdF C w.heap.size w vb b) (U:∀ b o,C b o->b<w.heap.size) (hG:GL C w) :
 Calls Tryz.prog 159 #[va,vb] w fun e w'=>e=.returned (.map (some w.heap.size))/\Below w.heap.size w w'/\∃ D,w'.ownsMap Tryz.prog 24 rV w.heap.size (a.length+b.length) D/\PairD C w' w.heap.size D (zM a++zM b) (zT a) (zT b):=by
 have aJ:=@run_makeMap Tryz.prog
 have RA:=Lib.hid ra
 have RB:=Lib.hid rb
 obtain⟨aa,ca,rfl,aH,aA,_⟩:=ra
 obtain⟨ab,cb,rfl,aI,aB,_⟩:=rb
 unfold maxLen at aA aB
 have i0:=zkt aa ab a.length b.length ca cb
 have i1:=zku aa ab a.length b.length ca cb
 go_enter Tryz.func159,Tryz.ntmps159
 go_wp2_with fail
 go_loopg [15] 2 (fun g x wr=>∃ D,((g=2/\x=.int .i64 0/\wr.ownsMap Tryz.prog 24 rV w.heap.size 0 D/\PairD C wr w.heap.size D [] (fun _=>[]) (fun _=>[])) \/
  (g=1/\x=.int .i64 1/\wr.ownsMap Tryz.prog 24 rV w.heap.size a.length D/\PairD C wr w.heap.size D (zM a) (zT a) (fun _=>[])) \/
  (g=0/\x=.int .i64 2/\wr.ownsMap Tryz.prog 24 rV w.heap.size (a.length+b.length) D/\PairD C wr w.heap.size D (zM a++zM b) (zT a) (zT b)))/\Below w.heap.size w wr)
 case atStart=>exact⟨.map [],.inl ⟨rfl,rfl,World.ownsMap_made _ _ _ _,PairD.start _ _ _⟩,(Below.refl _ _).alloc (Nat.le_refl _) _⟩
 case round=>
  obtain⟨D,aw,hB⟩:=hrel
  obtain⟨wo,aF⟩:∃ wo,wo=wr:=⟨_,rfl⟩
  subst aF
  have Q:=Lib.hid hB
  clear hB
  rcases aw with⟨rfl,rfl,E,N⟩ | ⟨rfl,rfl,E,N⟩ | ⟨rfl,rfl,E,N⟩
  ·have J:=Lib.hid E
   have L:=Lib.hid N
   clear E N
   go_wp2_with fail
   go_loopg [21] a.length (fun g x wr=>∃ k D,k<=a.length/\g=a.length - k/\x=.int .i64 k/\wr.ownsMap Tryz.prog 24 rV w.heap.size (0+k) D/\PairD C wr w.heap.size D (zM (a.take k)) (zT (a.take k)) (fun _=>[])/\Below w.heap.size w wr/\w.heap.size<wr.heap.size)
   case atStart=>exact⟨0,D,Nat.zero_le _,rfl,rfl,J.out,L.out,Q.out,J.out.lt⟩
   case round=>
    obtain⟨k,D',hk,rfl,rfl,u,I,F,aj⟩:=hrel
    clear J L Q
    by_cases y:k<a.length
    ·have J:=Lib.hid u
     have L:=Lib.hid I
     have Q:=Lib.hid F
     obtain⟨a',X,Z,_,_,ac⟩:=RdF.keep U RA.out fun j T=>F.block j T
     obtain⟨bb,aG,av,_,aC,M⟩:=ac (by intro e;subst e;simp at y)
     obtain⟨rfl,_,rfl⟩:aa=a'/\a.length=a.length/\ca=X:=by simpa using Z
     subst av
     obtain⟨c0,c1,⟨hv,c2,K⟩,S,az⟩:=M k y
     have HE:Hid (∃ e,e=a[k]):=⟨_,rfl⟩
     obtain⟨e,he⟩:=HE.out
     have hE:zO e/\e.holes.length<=10000:=by rw [he];exact⟨ha.1.1 _ (List.getElem_mem y),ha.2.2 _ (List.getElem_mem y)⟩
     have hT:=Vj ha.1 y
     have hR:zM (a.take (k+1))=zM (a.take k)++[e.rep]:=by unfold zM;rw [List.take_succ_eq_append_getElem y,he,List.map_append];rfl
     rw [<-he] at c0 c1 K S az hT
     have HT:=Lib.hid hT
     have HR:=Lib.hid hR
     clear ac M he HE Z u I F hT hR
     obtain⟨s0,s1,Y,ae,af⟩:=(L.out.2 e.rep).2
     obtain⟨a0,n0,rfl⟩:=zK ae
     obtain⟨a1,n1,rfl⟩:=zK af
     clear ae af
     have HA:=Lib.hid Y
     have aD:e.holes.length<=maxLen:=by have:=hE.2;unfold maxLen;omega
     obtain⟨ah,ch,rfl⟩:=zK K
     have HH:=Lib.hid K
     clear K
     have aE:=Qf (J.out.alloc (.cells #[.int .u64 e.rep,.int .u64 e.max,.slice ah e.holes.length ch] 38)) S HA.out
     have ai:=zaa (w:=(wr.alloc (.cells #[.int .u64 e.rep,.int .u64 e.max,.slice ah e.holes.length ch] 38)).alloc (.cells #[.slice a0 (zT (a.take k) e.rep).length n0,.slice a1 ([]:List Iv).length n1] 200)) hE.1 hE.2
      (HH.out.mono (fun _ _ h=>h) fun j o x T hx=>(World.cell?_of_block (a:=⟨j,o,none⟩) (by have ax:=U j o T;rw [Below.heap_alloc _ _ _ (by simp;omega),Below.heap_alloc _ _ _ (by show j<_;omega)])).trans hx) U (by simp;omega)
      (hG.mono (fun _ _ h=>h) fun j o x T hx=>(World.cell?_of_block (a:=⟨j,o,none⟩) (by have ax:=U j o T;rw [Below.heap_alloc _ _ _ (by simp;omega),Below.heap_alloc _ _ _ (by show j<_;omega),Q.out.block j (U j o T)])).trans hx)
     have HK:=Lib.hid ai
     clear Y ai
     have HG:=Lib.hid hG
     clear hG
     have O:True:=trivial
     have P:True:=trivial
     go_wp2_with (first
      | (go_at_call 85;have _t:=O;refine HK.out.mono ?_;rintro e' w3 ⟨ad,au,rfl,G,ag⟩
         have am:w3.heap[wr.heap.size]? = some (.cells #[.int .u64 e.rep,.int .u64 e.max,.slice ah e.holes.length ch] 38 (0,0)):=by rw [G.block _ (by simp;omega),Below.heap_alloc _ _ _ (by simp)];exact World.alloc_heap_new wr _
         have B:w3.heap[wr.heap.size+1]? = some (.cells #[.slice a0 (zT (a.take k) e.rep).length n0,.slice a1 ([]:List Iv).length n1] 200 (0,0)):=by rw [G.block _ (by simp)];have:=World.alloc_heap_new (wr.alloc (.cells #[.int .u64 e.rep,.int .u64 e.max,.slice ah e.holes.length ch] 38)) (.cells #[.slice a0 (zT (a.take k) e.rep).length n0,.slice a1 ([]:List Iv).length n1] 200);rwa [World.size_alloc] at this
         have ak:w3.heap[w.heap.size]? = wr.heap[w.heap.size]?:=by rw [G.block _ (by simp;omega),Below.heap_alloc _ _ _ (by simp;omega),Below.heap_alloc _ _ _ (by omega)]
         have f1:=(zW am 0 _ rfl).1
         have f2:=(zW B 0 _ rfl).1
         have f3:=(zW B 0 _ rfl).2
         have f4:=(zW B 1 _ rfl).1
         have ar:=Lib.hid (((yg J.out ak).setCell (a:=⟨wr.heap.size+1,0,none⟩) (by show w.heap.size≠wr.heap.size+1;omega) (.slice ad (kn e).length au)))
         have an:=Lib.hid G
         have ao:=Lib.hid ag
         clear am B ak G ag O)
      | (at_mapUpdate;have _t:=P;refine wpList_mapUpdate_own _ rfl _ _ _ 195 rfl 24 200 vF Tryz.underlying195 rV w.heap.size (0+k) D' rfl ar.out (by have:=ha.2.1;unfold maxLen;omega) _ _ (kR e.rep) rfl rfl (Zq S) _ [] rfl ?_;intro w5 H A;clear P;have V:=Lib.hid H;have aq:=Lib.hid A;clear H A;dsimp only [Act.put])
      | go_in)
     obtain⟨p1,p2,p3⟩:=Qm U L.out HA.out Q.out aj an.out ao.out 0 aq.out
     have h5:w.heap.size<w5.heap.size:=V.out.lt
     go_roundg (a.length - (k+1))
     case measure=>omega
     case rel=>exact⟨k+1,_,y,rfl,by simp,V.out,by rw [HR.out,HT.out];exact p1,p3,h5⟩
    ·have ay:k=a.length:=by omega
     subst ay
     rw [List.take_length] at I
     have J:=Lib.hid u
     have L:=Lib.hid I
     have Q:=Lib.hid F
     clear u I F
     go_wp2_with fail
     go_roundg 1
     case measure=>omega
     case rel=>exact⟨D',.inr (.inl ⟨rfl,rfl,by have:=J.out;simpa using this,L.out⟩),Q.out⟩
  ·have J:=Lib.hid E
   have L:=Lib.hid N
   clear E N
   go_wp2_with fail
   go_loopg [21] b.length (fun g x wr=>∃ k D,k<=b.length/\g=b.length - k/\x=.int .i64 k/\wr.ownsMap Tryz.prog 24 rV w.heap.size (a.length+k) D/\PairD C wr w.heap.size D (zM a++zM (b.take k)) (zT a) (zT (b.take k))/\Below w.heap.size w wr/\w.heap.size<wr.heap.size)
   case atStart=>exact⟨0,D,Nat.zero_le _,rfl,rfl,J.out.mono (by omega),(by have:=L.out;simpa [zM,zmT] using this),Q.out,J.out.lt⟩
   case round=>
    obtain⟨k,D',hk,rfl,rfl,u,I,F,aj⟩:=hrel
    clear J L Q
    by_cases y:k<b.length
    ·have J:=Lib.hid u
     have L:=Lib.hid I
     have Q:=Lib.hid F
     obtain⟨a',X,Z,_,_,ac⟩:=RdF.keep U RB.out fun j T=>F.block j T
     obtain⟨bb,aG,av,_,aC,M⟩:=ac (by intro e;subst e;simp at y)
     obtain⟨rfl,_,rfl⟩:ab=a'/\b.length=b.length/\cb=X:=by simpa using Z
     subst av
     obtain⟨c0,c1,⟨hv,c2,K⟩,S,az⟩:=M k y
     have HE:Hid (∃ e,e=b[k]):=⟨_,rfl⟩
     obtain⟨e,he⟩:=HE.out
     have hE:zO e/\e.holes.length<=10000:=by rw [he];exact⟨hb.1.1 _ (List.getElem_mem y),hb.2.2 _ (List.getElem_mem y)⟩
     have hT:=Vj hb.1 y
     have hR:zM (b.take (k+1))=zM (b.take k)++[e.rep]:=by unfold zM;rw [List.take_succ_eq_append_getElem y,he,List.map_append];rfl
     rw [<-he] at c0 c1 K S az hT
     have HT:=Lib.hid hT
     have HR:=Lib.hid hR
     clear ac M he HE Z u I F hT hR
     obtain⟨s0,s1,Y,ae,af⟩:=(L.out.2 e.rep).2
     obtain⟨a0,n0,rfl⟩:=zK ae
     obtain⟨a1,n1,rfl⟩:=zK af
     clear ae af
     have HA:=Lib.hid Y
     have aD:e.holes.length<=maxLen:=by have:=hE.2;unfold maxLen;omega
     obtain⟨ah,ch,rfl⟩:=zK K
     have HH:=Lib.hid K
     clear K
     have aE:=Qf (J.out.alloc (.cells #[.int .u64 e.rep,.int .u64 e.max,.slice ah e.holes.length ch] 38)) S HA.out
     have ai:=zaa (w:=(wr.alloc (.cells #[.int .u64 e.rep,.int .u64 e.max,.slice ah e.holes.length ch] 38)).alloc (.cells #[.slice a0 (zT a e.rep).length n0,.slice a1 (zT (b.take k) e.rep).length n1] 200)) hE.1 hE.2
      (HH.out.mono (fun _ _ h=>h) fun j o x T hx=>(World.cell?_of_block (a:=⟨j,o,none⟩) (by have ax:=U j o T;rw [Below.heap_alloc _ _ _ (by simp;omega),Below.heap_alloc _ _ _ (by show j<_;omega)])).trans hx) U (by simp;omega)
      (hG.mono (fun _ _ h=>h) fun j o x T hx=>(World.cell?_of_block (a:=⟨j,o,none⟩) (by have ax:=U j o T;rw [Below.heap_alloc _ _ _ (by simp;omega),Below.heap_alloc _ _ _ (by show j<_;omega),Q.out.block j (U j o T)])).trans hx)
     have HK:=Lib.hid ai
     clear Y ai
     have HG:=Lib.hid hG
     clear hG
     have O:True:=trivial
     have P:True:=trivial
     go_wp2_with (first
      | (go_at_call 85;have _t:=O;refine HK.out.mono ?_;rintro e' w3 ⟨ad,au,rfl,G,ag⟩
         have am:w3.heap[wr.heap.size]? = some (.cells #[.int .u64 e.rep,.int .u64 e.max,.slice ah e.holes.length ch] 38 (0,0)):=by rw [G.block _ (by simp;omega),Below.heap_alloc _ _ _ (by simp)];exact World.alloc_heap_new wr _
         have B:w3.heap[wr.heap.size+1]? = some (.cells #[.slice a0 (zT a e.rep).length n0,.slice a1 (zT (b.take k) e.rep).length n1] 200 (0,0)):=by rw [G.block _ (by simp)];have:=World.alloc_heap_new (wr.alloc (.cells #[.int .u64 e.rep,.int .u64 e.max,.slice ah e.holes.length ch] 38)) (.cells #[.slice a0 (zT a e.rep).length n0,.slice a1 (zT (b.take k) e.rep).length n1] 200);rwa [World.size_alloc] at this
         have ak:w3.heap[w.heap.size]? = wr.heap[w.heap.size]?:=by rw [G.block _ (by simp;omega),Below.heap_alloc _ _ _ (by simp;omega),Below.heap_alloc _ _ _ (by omega)]
         have f1:=(zW am 0 _ rfl).1
         have f2:=(zW B 0 _ rfl).1
         have f3:=(zW B 1 _ rfl).2
         have f4:=(zW B 1 _ rfl).1
         have ar:=Lib.hid (((yg J.out ak).setCell (a:=⟨wr.heap.size+1,1,none⟩) (by show w.heap.size≠wr.heap.size+1;omega) (.slice ad (kn e).length au)))
         have an:=Lib.hid G
         have ao:=Lib.hid ag
         clear am B ak G ag O)
      | (at_mapUpdate;have _t:=P;refine wpList_mapUpdate_own _ rfl _ _ _ 195 rfl 24 200 vF Tryz.underlying195 rV w.heap.size (a.length+k) D' rfl ar.out (by have:=hb.2.1;have:=ha.2.1;unfold maxLen;omega) _ _ (kR e.rep) rfl rfl (Zq S) _ [] rfl ?_;intro w5 H A;clear P;have V:=Lib.hid H;have aq:=Lib.hid A;clear H A;dsimp only [Act.put])
      | go_in)
     obtain⟨p1,p2,p3⟩:=Qm U L.out HA.out Q.out aj an.out ao.out 1 aq.out
     have h5:w.heap.size<w5.heap.size:=V.out.lt
     go_roundg (b.length - (k+1))
     case measure=>omega
     case rel=>exact⟨k+1,_,y,rfl,by simp,V.out,by rw [HR.out,HT.out];rw [<-List.append_assoc];exact p2,p3,h5⟩
    ·have ay:k=b.length:=by omega
     subst ay
     rw [List.take_length] at I
     have J:=Lib.hid u
     have L:=Lib.hid I
     have Q:=Lib.hid F
     clear u I F
     go_wp2_with fail
     go_roundg 0
     case measure=>omega
     case rel=>exact⟨D',.inr (.inr ⟨rfl,rfl,J.out,L.out⟩),Q.out⟩
  ·have J:=Lib.hid E
   have L:=Lib.hid N
   clear E N
   go_wp2_with fail
   refine bodyPost_ret (results_tmp rfl _ _ _) rfl ?_
   exact⟨rfl,Q.out,D,J.out,L.out⟩
end Go.Proofs.YtonhfknjcbakiaaGreatDoor
namespace Go.Proofs.YtonhfknjcbakiaaGreatDoor
open Go.RowKit Go.Lib
attribute [-go_sem] nat_succ
def uV (r:Nat):Value:=.int .u64 (r:Nat)
def OwnU (base:Nat) (w:World) (v:Value) (l:List Nat):Prop:=w.ownsRow base 24 1 v l.length (l.map uV)
def kF {α:Type}:List α->Nat->List α->List α
 | xs,_,[]=>xs
 | xs,o,v::r=>kF (xs.set o v) (o+1) r
theorem jt {α:Type}:∀(j a:List α) (o:Nat),o+j.length<=a.length->kF a o j=a.take o++j++a.drop (o+j.length)
 | [],a,o,h=>by simp [kF]
 | v::r,a,o,h=>by
   simp only [List.length_cons] at h
   rw [kF,jt r (a.set o v) (o+1) (by rw [List.length_set];omega)]
   rw [List.drop_set_of_lt (by omega),List.take_succ_eq_append_getElem (by rw [List.length_set];omega),List.take_set_of_le (Nat.le_refl _),List.getElem_set_self]
   simp only [List.append_assoc,List.length_cons,List.cons_append,List.nil_append]
   rw [show o+1+r.length=o+(r.length+1) by omega]
theorem jW (w:World) (r:Option Nat):w.grownBy w r:=⟨rfl,rfl,rfl,Nat.le_refl _,fun _ _ _=>rfl⟩
theorem yn {a b c:World} {r:Option Nat} (h:a.grownBy b r) (k:b.grownBy c r):a.grownBy c r:=
 ⟨k.os.trans h.os,k.tape.trans h.tape,k.output.trans h.output,Nat.le_trans h.size k.size,fun i hi hs=>(k.block i (Nat.lt_of_lt_of_le hi h.size) hs).trans (h.block i hi hs)⟩
theorem z9 {base:Nat} {e:TypeId} {size g n a:Nat}:∀(u:List Value) (o:Nat) (w:World) (j:List Value),w.ownsRow base e size (.slice (some ⟨g,0,none⟩) n a) n j ->
 (w.setCells g o u).ownsRow base e size (.slice (some ⟨g,0,none⟩) n a) n (kF j o u)/\w.grownBy (w.setCells g o u) (some g)
 | [],_,w,j,h=>⟨h,jW _ _⟩
 | v::r,o,w,j,h=>by
   obtain⟨y,A⟩:=h.stored o v
   obtain⟨B,C⟩:=z9 r (o+1) _ _ y
   exact⟨B,yn A C⟩
theorem Vf:(Tryz.prog.info? 24).map (fun i=>(i.zero,i.size,i.bytes))=some (some (.int .u64 0),1,8):=by kernel_rfl
theorem QN {l:List Nat}:∀ v ∈ l.map uV,v.oneCell'=true:=fun v a=>by
 obtain⟨r,_,rfl⟩:=List.mem_map.1 a
 rfl
theorem OwnU.cases {base:Nat} {w:World} {v:Value} {l:List Nat} (h:OwnU base w v l):(v=.slice none 0 0/\l=[]) \/
 ∃ g a j,v=.slice (some ⟨g,0,none⟩) l.length a/\base<=g/\g<w.heap.size/\w.heap[g]? = some (.cells j 24 (0,0))/\l.length<=a/\a<=maxLen/\j.size=a/\j.toList.take l.length=l.map uV:=by
 rcases h.2 with⟨u,y⟩ | ⟨g,a,j,u,y,A,B,C,F,E⟩
 ·exact .inl ⟨u,List.length_eq_zero_iff.1 y⟩
 ·exact .inr ⟨g,a,j,u,y,(Array.getElem?_eq_some_iff.1 A).1,A,B,C,by omega,by rwa [Nat.mul_one] at E⟩
theorem zc5 {a:List Value} {u x:Value} {i:Nat} (hi:i<=a.length):kF (kF (a++[u]) (i+1) (a.drop i)) i [x]=a.take i++x::a.drop i:=by
 rw [jt (a.drop i) _ _ (by simp;omega)]
 have j:i+1+(a.drop i).length=a.length+1:=by simp;omega
 rw [j,show a.length+1=(a++[u]).length by simp,List.drop_length,List.append_nil]
 rw [jt [x] _ _ (by simp;omega)]
 rw [List.take_append_of_le_length (by simp;omega),List.take_take,Nat.min_eq_left (by omega),List.take_append_of_le_length hi]
 have hl:((a++[u]).take (i+1)).length=i+1:=by simp;omega
 rw [show i+[x].length=i+1 from rfl,List.drop_append,hl,Nat.sub_self,List.drop_zero,show ((a++[u]).take (i+1)).drop (i+1)=[] from List.drop_eq_nil_of_le (by omega)]
 simp
theorem kG {α:Type} (a b c v:List α) (h:b.length=v.length) {i:Nat} (hi:i=a.length):kF (a++b++c) i v=a++v++c:=by
 subst hi
 rw [jt _ _ _ (by simp;omega),List.append_assoc a b c,List.take_left' rfl,<-List.drop_drop,List.drop_left' rfl,<-h,List.drop_left' rfl]
theorem zc4 {a:List Value} {u x:Value} {i:Nat} (hi:i<=a.length):kF (kF (a.take i++List.replicate (a.length+1 - i) u) i [x]) (i+1) (a.drop i)=a.take i++x::a.drop i:=by
 have hl:(a.take i).length=i:=by simp;omega
 have e1:=kG (a.take i) [u] (List.replicate (a.length - i) u) [x] rfl hl.symm
 have e2:=kG (a.take i++[x]) (List.replicate (a.length - i) u) [] (a.drop i) (by simp) (i:=i+1) (by simp;omega)
 rw [show a.length+1 - i=(a.length - i)+1 by omega,List.replicate_succ,show a.take i++u::List.replicate (a.length - i) u=a.take i++[u]++List.replicate (a.length - i) u by simp,e1]
 rw [List.append_nil,List.append_nil] at e2
 rw [e2]
 simp
theorem vH {w:World} {A:Nat} {vt:TypeId} {x:Nat} (y:w.heap[A]? = some (.cells #[uV x] vt (0,0))):∀ j u,[uV x][j]? = some u->w.cell? ((⟨A,0,none⟩:Addr).add j)=some u:=fun j u a=>by
 match j,a with
 | 0,a=>cases a;simp [World.cell?,Addr.add,y]
 | j+1,a=>simp at a
theorem zfr (base J:Nat) (vt:TypeId) (w:World) (v:Value) (l:List Nat) (x:Nat) (a:OwnU base w v l) (N:w.heap[J]? = some (.cells #[uV x] vt (0,0))) (hl:l.length<=1099511627776) (y:base<=w.heap.size) :
 Calls Tryz.prog 193 #[v,.int .i64 (l.length:Nat),.slice (some ⟨J,0,none⟩) 1 1] w fun e A=>∃ j,e=.returned j/\OwnU base A j (l++[x])/\w.grownBy A v.ownBlock/\(j.ownBlock=v.ownBlock\/j.ownBlock=some w.heap.size):=by
 obtain⟨T,F,G,H,I⟩:=info_parts Vf
 have Q:=vH N
 have B:∀ u ∈ [uV x],u.oneCell'=true:=fun u S=>by simp at S;subst S;rfl
 have O:=Lib.hid a
 have fin:∀ j A,A.ownsRow base 24 1 j (l.length+1) (l.map uV++[uV x])->OwnU base A j (l++[x]):=fun j A h=>by
  unfold OwnU
  simpa using h
 rcases a.cases with⟨rfl,rfl⟩ | ⟨g,K,U,rfl,V,X,Y,Z,L,ab,M⟩
 ·clear a
  go_enter Tryz.func193,Tryz.ntmps193
  go_wp2_with (at_builtin;refine wpList_append_own_at _ rfl _ _ 157 rfl base 24 T (.int .u64 0) 1 8 Tryz.underlying157 F G H I rfl (by decide) _ _ _ rfl O.out ⟨J,0,none⟩ 1 1 [uV x] rfl rfl Q B (by simp [maxLen]) (by simp) y ?_;intro j A ho E _ C)
  go_ret
  exact⟨j,rfl,fin j A ho,E,C⟩
 ·unfold maxLen at L
  have P:K<=9223372036854775807:=by omega
  clear a M
  go_enter Tryz.func193,Tryz.ntmps193
  go_wp2_with (at_builtin;refine wpList_append_own_at _ rfl _ _ 157 rfl base 24 T (.int .u64 0) 1 8 Tryz.underlying157 F G H I rfl (by decide) _ _ _ rfl O.out ⟨J,0,none⟩ 1 1 [uV x] rfl rfl Q B (by unfold maxLen;omega) (by omega) y ?_;intro j A ho E _ C)
  all_goals (go_ret;exact⟨j,rfl,fin j A ho,E,C⟩)
theorem zgG (n:Nat):(Builtin.zeroCells (Value.int .u64 0).cells n).toList=List.replicate n (.int .u64 0):=by
 apply List.ext_getElem
 ·simp [Builtin.zeroCells,Value.cells]
 ·intro i a j
  simp [Builtin.zeroCells,Value.cells,Nat.mod_one]
theorem KX {base:Nat} {w:World} {v:Value} {l:List Nat} {x i:Nat} (hi:i<=l.length) (h:w.ownsRow base 24 1 v (l.length+1) ((l.map uV).take i++uV x::(l.map uV).drop i)):OwnU base w v (l.take i++x::l.drop i):=by
 unfold OwnU
 rw [show (l.take i++x::l.drop i).length=l.length+1 by simp;omega,List.map_append,List.map_cons,List.map_take,List.map_drop]
 exact h
theorem zfs (base S:Nat) (vt:TypeId) (w:World) (g a:Nat) (l:List Nat) (x i:Nat) (hi:i<l.length) (E:OwnU base w (.slice (some ⟨g,0,none⟩) l.length a) l) (J:a<l.length+1) (af:w.heap[S]? = some (.cells #[uV x] vt (0,0))) (hl:l.length<=1099511627776) (ab:base<=w.heap.size) :
 Calls Tryz.prog 193 #[.slice (some ⟨g,0,none⟩) l.length a,.int .i64 (i:Nat),.slice (some ⟨S,0,none⟩) 1 1] w fun e w'=>∃ v',e=.returned v'/\OwnU base w' v' (l.take i++x::l.drop i)/\w.grownBy w' none/\v'.ownBlock=some w.heap.size:=by
 obtain⟨i0,am,aC,hzs,au⟩:=info_parts Vf
 obtain⟨n,hn⟩:∃ n,n=l.length:=⟨_,rfl⟩
 obtain⟨A,I⟩:∃ A,A=l.map uV:=⟨_,rfl⟩
 have ac:A.length=n:=by rw [I,hn,List.length_map]
 have Q:∀ u ∈ A,u.oneCell'=true:=by rw [I];exact QN
 have aq:=vH af
 have aB:S<w.heap.size:=(Array.getElem?_eq_some_iff.1 af).1
 have az:g<w.heap.size:=(E.lt g rfl).2
 have aL:n<=a:=by
  rcases E.cases with⟨h,_⟩ | ⟨g',aE,_,h,_,_,_,h4,_⟩
  ·cases h
  ·cases h;omega
 have hg:∀ j v,A[j]? = some v->w.cell? ⟨g,j,none⟩=some v:=fun j v F=>by
  have:=World.ownsRow.cells E (g:=g) rfl j v (by rw [<-I];exact F)
  rw [zh,Nat.zero_add] at this
  exact this
 rw [<-hn] at hi E J hl ⊢
 have ao:(n:Int)+1 - (i:Int)=((n+1 - i:Nat):Int):=by omega
 have ad:i+(n+1 - i)=n+1:=by omega
 have P:(Builtin.firstCells i0.size i (.slice (some ⟨g,0,none⟩) i a)).run Tryz.prog w.drew=.ok (A.take i).toArray w.drew:=by
  rw [hzs]
  refine run_firstCells_some w.drew 1 i ⟨g,0,none⟩ i a (A.take i) (by rw [List.length_take];omega) (fun j v F=>?_)
  rw [List.getElem?_take] at F
  split at F
  ·have:=hg j v F
   rw [zh,Nat.zero_add]
   exact this
  ·cases F
 have ae:∀ L,(Builtin.append_ #[157,3] L #[.slice (some ⟨g,0,none⟩) i a,.int .i64 ((n:Int)+1 - (i:Int))]).run Tryz.prog w =
  .ok (.slice (some ⟨w.heap.size,0,none⟩) (n+1) (grownCap w (n+1) a 24)) (w.drew.alloc (.cells ((A.take i).toArray++Builtin.zeroCells (Value.int .u64 0).cells (n+1 - i)++Builtin.zeroCells (Value.int .u64 0).cells (grownCap w (n+1) a 24 - (n+1))) 24)):=fun L=>by
  have h:=Lib.run_append_grow_zeros w 157 3 L 24 i0 _ .i64 .i64 Tryz.underlying157 Tryz.underlying3 am aC (some ⟨g,0,none⟩) i a (A.take i) P (n+1 - i) (by omega) (by omega) (by omega) (by omega) (by rw [au];omega) (by rw [au,ad];exact growslice_fits J (by omega))
  rw [ad] at h
  rw [ao]
  exact h
 obtain⟨G,hG⟩:∃ G,G=grownCap w (n+1) a 24 := ⟨_,rfl⟩
 have ax:n+1<=G:=by rw [hG];exact grownCap_ge w _ _ _
 have ag:G<=maxLen:=by rw [hG];exact grownCap_le_maxLen w _ _ _ (by unfold maxLen;omega)
 obtain⟨R,hR⟩:∃ R:Array Value,R=(A.take i).toArray++Builtin.zeroCells (Value.int .u64 0).cells (n+1 - i)++Builtin.zeroCells (Value.int .u64 0).cells (G - (n+1)):=⟨_,rfl⟩
 rw [<-hG,<-hR] at ae
 have aA:(A.take i).length=i:=by rw [List.length_take];omega
 have Y:R.toList=(A.take i++List.replicate (A.length+1 - i) (.int .u64 0))++List.replicate (G - (n+1)) (.int .u64 0):=by
  rw [hR]
  simp only [Array.toList_append,zgG,ac]
 have ay:R.size=G:=by
  have:R.toList.length=G:=by rw [Y];simp;omega
  simpa using this
 obtain⟨B,C⟩:∃ B,B=w.drew.alloc (.cells R 24):=⟨_,rfl⟩
 have o1:B.ownsRow base 24 1 (.slice (some ⟨w.heap.size,0,none⟩) (n+1) G) (n+1) (A.take i++List.replicate (A.length+1 - i) (.int .u64 0)):=by
  refine⟨by simp;omega,.inr ⟨w.heap.size,G,R,rfl,ab,?_,ax,ag,by omega,?_⟩⟩
  ·rw [C];exact World.alloc_heap_new w.drew _
  ·rw [Y,List.take_append_of_le_length (by simp;omega),List.take_of_length_le (by simp;omega)]
 obtain⟨o2,V⟩:=z9 [uV x] i _ _ o1
 obtain⟨o3,g3⟩:=z9 (A.drop i) (i+1) ((B.setCells w.heap.size i [uV x]).drew) _ o2
 rw [zc4 (by omega)] at o3
 have U:w.grownBy B none:=by
  rw [C]
  exact⟨rfl,rfl,rfl,by simp,fun k hk _=>Below.heap_alloc w.drew _ _ hk⟩
 have N:w.grownBy (((B.setCells w.heap.size i [uV x]).drew).setCells w.heap.size (i+1) (A.drop i)) none:=by
  refine⟨g3.os.trans (V.os.trans U.os),g3.tape.trans (V.tape.trans U.tape),g3.output.trans (V.output.trans U.output),Nat.le_trans U.size (Nat.le_trans V.size g3.size),fun k hk _=>?_⟩
  have an:k<B.heap.size:=Nat.lt_of_lt_of_le hk U.size
  have M:some k≠some w.heap.size:=fun e=>by cases e;omega
  rw [g3.block k (Nat.lt_of_lt_of_le an V.size) M]
  show (B.setCells w.heap.size i [uV x]).heap[k]? = _
  rw [V.block k an M,U.block k hk (by simp)]
 have OF:=Lib.hid (KX (l:=l) (x:=x) (i:=i) (by omega) (by rw [<-hn,<-I];exact o3))
 have GA:=Lib.hid N
 clear o3 N o1 o2
 rw [<-C] at ae
 have hN:∀ j,j<n+1->(B.cell? ⟨w.heap.size,j,none⟩).isSome=true:=fun j F=>by
  rw [C,World.cell?_alloc_at (w:=w.drew) R _ w.heap.size j rfl,Array.getElem?_eq_getElem (by omega)];rfl
 have X:∀ j,B.frozen? ⟨w.heap.size,j,none⟩=false:=fun j=>by rw [C];exact World.frozen?_alloc_at (w:=w.drew) R _ w.heap.size j rfl
 have ah:∀ j v,w.cell? ⟨g,j,none⟩=some v->B.cell? ⟨g,j,none⟩=some v:=fun j v h=>by rw [C,World.cell?_alloc_past (w:=w.drew) _ g j az];exact h
 have ai:∀ j v,w.cell? ⟨S,j,none⟩=some v->B.cell? ⟨S,j,none⟩=some v:=fun j v h=>by rw [C,World.cell?_alloc_past (w:=w.drew) _ S j aB];exact h
 have ar:(Tryz.prog.info? 24).map (·.size)=some 1:=by rw [am];simp [hzs]
 have K:∀ u ∈ [uV x],u.oneCell'=true:=fun u hu=>by simp at hu;subst hu;rfl
 have aj:∀(W:World),(∀ y,W.cell? y=B.cell? y)->(∀ y,W.frozen? y=B.frozen? y)->∀ L T,(Builtin.copy_ #[157,157] L #[.slice (some ⟨w.heap.size,i,none⟩) (n+1 - i) T,.slice (some ⟨S,0,none⟩) 1 1]).run Tryz.prog W=.ok (goInt [uV x].length) (W.setCells w.heap.size i [uV x]):=fun W H Z L T=>
  run_copy_cells W _ _ L 24 w.heap.size i (n+1 - i) T ⟨S,0,none⟩ 1 1 [uV x] Tryz.underlying157 ar (by simp only [List.length_singleton,Nat.min_def];split<;>omega)
   (fun j v F=>by have:=aq j v F;rw [zh] at this;rw [H,zh];exact ai _ v this)
   (fun j F=>by rw [H];simp at F;exact hN _ (by omega)) (fun j F=>by rw [Z];exact X _) K
 have ak:(A.drop i).length=n - i:=by rw [List.length_drop,ac]
 have M:g≠w.heap.size:=by omega
 have O:∀(W:World),(∀ y,W.cell? y=(B.setCells w.heap.size i [uV x]).cell? y)->(∀ y,W.frozen? y=(B.setCells w.heap.size i [uV x]).frozen? y)->∀ L T sc,(Builtin.copy_ #[157,157] L #[.slice (some ⟨w.heap.size,i+1,none⟩) (n - i) T,.slice (some ⟨g,i,none⟩) (n - i) sc]).run Tryz.prog W=.ok (goInt (A.drop i).length) (W.setCells w.heap.size (i+1) (A.drop i)):=fun W H Z L T sc=>
  run_copy_cells W _ _ L 24 w.heap.size (i+1) (n - i) T ⟨g,i,none⟩ (n - i) sc (A.drop i) Tryz.underlying157 ar (by rw [ak];simp only [Nat.min_def];split<;>omega)
   (fun j v F=>by
     rw [H,zh,World.cell?_setCells_out _ _ _ _ _ (fun h _=>absurd h M)]
     exact ah _ v (hg (i+j) v (by rwa [List.getElem?_drop] at F)))
   (fun j F=>by rw [H];exact isSome_setCells _ _ _ _ (fun t ht=>hN _ (by simp at ht;omega)) _ (hN _ (by omega)))
   (fun j F=>by rw [Z,World.frozen?_setCells];exact X _) (fun v hv=>Q v (List.mem_of_mem_drop hv))
 have av:∀ y,((B.setCells w.heap.size i [uV x]).drew).cell? y=(B.setCells w.heap.size i [uV x]).cell? y:=fun y=>rfl
 have aw:∀ y,((B.setCells w.heap.size i [uV x]).drew).frozen? y=(B.setCells w.heap.size i [uV x]).frozen? y:=fun y=>rfl
 have aO:¬((i:Int)=(n:Int)):=by omega
 have aP:(a:Int)<(n:Int)+1:=by omega
 unfold maxLen at ag
 have aG:¬(G=i):=by omega
 have aF:¬(G=i+1):=by omega
 have aJ:¬(a=i):=by omega
 have aN:IntKind.i64.wrap ((i:Int)+1)=(i:Int)+1:=by rw [IntKind.wrap_i64];omega
 have aH:(0:Int)<=(i:Int)+1:=by omega
 have aK:i<=n:=by omega
 have aM:((i:Int)+1).toNat=i+1:=by omega
 have aI:(i:Int)<=(n:Int):=by omega
 clear hn ao ad P hG Y hR ay E hg hN X ah ai Q K ac I aq af aA ak U V g3 C
 go_enter Tryz.func193,Tryz.ntmps193
 go_wp2_with (first
  | (at_builtin;refine Lib.wpList_append_run _ rfl _ _ _ _ rfl _ _ rfl rfl _ _ (ae _) ?_)
  | (at_builtin;refine wpList_copy_runI _ rfl _ _ 157 157 rfl _ _ rfl rfl (aj _ (fun _=>rfl) (fun _=>rfl) _ _) ?_)
  | (at_builtin;refine wpList_copy_runI _ rfl _ _ 157 157 rfl _ _ rfl rfl (O _ (fun _=>rfl) (fun _=>rfl) _ _ _) ?_))
 have aD:Tryz.prog.follows .mixedOrders=true:=by kernel_rfl
 go_region_law_o (refine step_copy_runI rfl _ _ 157 157 rfl (.slice (some ⟨w.heap.size,i+1,none⟩) (n - i) (G - (i+1))) (.slice (some ⟨g,i,none⟩) (n - i) (a - i)) (by simp [Act.eval,Act.put]) (by simp [Act.eval,Act.put]) (O _ av aw _ (G - (i+1)) (a - i)) ?_)
 go_wp2
 refine bodyPost_ret (results_tmp rfl _ _ _) rfl ?_
 exact⟨_,rfl,OF.out,GA.out,rfl⟩
theorem za8 (base N:Nat) (vt:TypeId) (w:World) (g a:Nat) (l:List Nat) (x i:Nat) (hi:i<l.length) (E:OwnU base w (.slice (some ⟨g,0,none⟩) l.length a) l) (L:l.length+1<=a) (M:w.heap[N]? = some (.cells #[uV x] vt (0,0))) (ai:N≠g) (hl:l.length<=1099511627776) :
 Calls Tryz.prog 193 #[.slice (some ⟨g,0,none⟩) l.length a,.int .i64 (i:Nat),.slice (some ⟨N,0,none⟩) 1 1] w fun e w'=>∃ v',e=.returned v'/\OwnU base w' v' (l.take i++x::l.drop i)/\w.grownBy w' (some g)/\v'.ownBlock=some g:=by
 obtain⟨i0,av,aG,hzs,aI⟩:=info_parts Vf
 obtain⟨n,hn⟩:∃ n,n=l.length:=⟨_,rfl⟩
 obtain⟨F,H⟩:∃ F,F=l.map uV:=⟨_,rfl⟩
 have ad:F.length=n:=by rw [H,hn,List.length_map]
 have Q:∀ u ∈ F,u.oneCell'=true:=by rw [H];exact QN
 have aj:=vH M
 obtain⟨A,ar,J,P,U,Y⟩:∃ A,base<=g/\w.heap[g]? = some (.cells A 24 (0,0))/\a<=maxLen/\A.size=a/\A.toList.take l.length=l.map uV:=by
  rcases E.cases with⟨h,_⟩ | ⟨g',ay,A,h,h1,_,h3,_,h5,h6,h7⟩
  ·cases h
  ·cases h;exact⟨A,h1,h3,h5,h6,h7⟩
 rw [<-hn,<-H] at Y
 rw [<-hn] at hi E L hl ⊢
 have ah:n<A.toList.length:=by simp;omega
 obtain⟨u,hu⟩:∃ u,u=A.toList[n]:=⟨_,rfl⟩
 have o0:w.drew.ownsRow base 24 1 (.slice (some ⟨g,0,none⟩) (n+1) a) (n+1) (F++[u]):=by
  refine⟨by simp;omega,.inr ⟨g,a,A,rfl,ar,J,L,P,by omega,?_⟩⟩
  rw [Nat.mul_one,List.take_succ_eq_append_getElem ah,Y,hu]
 obtain⟨o1,g1⟩:=z9 (F.drop i) (i+1) _ _ o0
 obtain⟨o2,g2⟩:=z9 [uV x] i _ _ o1
 rw [zc5 (by omega)] at o2
 have g0:w.grownBy w.drew (some g):=⟨rfl,rfl,rfl,Nat.le_refl _,fun _ _ _=>rfl⟩
 have OF:=Lib.hid (KX (l:=l) (x:=x) (i:=i) (by omega) (by rw [<-hn,<-H];exact o2))
 have GA:=Lib.hid (yn g0 (yn g1 g2))
 have B:∀ j,j<a->(w.cell? ⟨g,j,none⟩).isSome=true:=fun j C=>by
  simp [World.cell?,J,U,C]
 have X:∀ j,w.frozen? ⟨g,j,none⟩=false:=fun j=>by simp [World.frozen?,J]
 have hg:∀ j v,F[j]? = some v->w.cell? ⟨g,j,none⟩=some v:=fun j v C=>by
  have:=World.ownsRow.cells E (g:=g) rfl j v (by rw [<-H];exact C)
  rw [zh,Nat.zero_add] at this
  exact this
 have ak:w.shape? N=some (vt,1):=by simp [World.shape?,M]
 have am:w.shape? g=some (24,a):=by simp [World.shape?,J,U]
 have af:w.frozen? ⟨N,0,none⟩=false:=by simp [World.frozen?,M]
 have ag:w.frozen? ⟨N,1,none⟩=false:=by simp [World.frozen?,M]
 have an:(Tryz.prog.info? 24).map (·.size)=some 1:=by rw [av];simp [hzs]
 have K:∀ u ∈ [uV x],u.oneCell'=true:=fun u hu=>by simp at hu;subst hu;rfl
 have aw:∀ lb cb,(callFunc 209 #[.slice (some ⟨N,0,none⟩) 1 1,.slice (some ⟨g,i+1,none⟩) lb cb]).run Tryz.prog w=.ok (.value (.bool false)) w:=fun lb cb=>by
  rw [run_callFunc_extern Tryz.func209 (by kernel_rfl) (by kernel_rfl) (by kernel_rfl) (e:=Extern.SlicesOverlaps.overlaps #[157,157] #[4]) (by kernel_rfl),
   Lib.run_overlaps_apart w 157 4 24 Tryz.underlying157 1 (fun w=>by kernel_rfl) ⟨N,0,none⟩ ⟨g,i+1,none⟩ 1 1 lb cb ai vt 24 1 a ak am (by omega) af ag]
  rfl
 have V:(F.drop i).length=n - i:=by rw [List.length_drop,ad]
 have I:∀ O T sc,(Builtin.copy_ #[157,157] O #[.slice (some ⟨g,i+1,none⟩) (n - i) T,.slice (some ⟨g,i,none⟩) (n+1 - i) sc]).run Tryz.prog w.drew=.ok (goInt (F.drop i).length) (w.drew.setCells g (i+1) (F.drop i)):=fun O T sc=>
  run_copy_cells w.drew _ _ O 24 g (i+1) (n - i) T ⟨g,i,none⟩ (n+1 - i) sc (F.drop i) Tryz.underlying157 an (by rw [V];simp only [Nat.min_def];split<;>omega)
   (fun j v C=>by rw [zh];exact hg (i+j) v (by rwa [List.getElem?_drop] at C))
   (fun j C=>B _ (by omega)) (fun j C=>X _) (fun v hv=>Q v (List.mem_of_mem_drop hv))
 obtain⟨W1,G⟩:∃ W1,W1=w.drew.setCells g (i+1) (F.drop i):=⟨_,rfl⟩
 have S:∀ k,k<a->(W1.cell? ⟨g,k,none⟩).isSome=true:=fun k hk=>by
  rw [G]
  exact isSome_setCells g (F.drop i) (i+1) w.drew (fun j C=>B _ (by rw [V] at C;omega)) k (B k hk)
 have ae:∀(W:World),(∀ y,W.cell? y=W1.cell? y)->(∀ y,W.frozen? y=W1.frozen? y)->∀ O T,(Builtin.copy_ #[157,157] O #[.slice (some ⟨g,i,none⟩) (n+1 - i) T,.slice (some ⟨N,0,none⟩) 1 1]).run Tryz.prog W=.ok (goInt [uV x].length) (W.setCells g i [uV x]):=fun W ac aq O T=>
  run_copy_cells W _ _ O 24 g i (n+1 - i) T ⟨N,0,none⟩ 1 1 [uV x] Tryz.underlying157 an (by simp only [List.length_singleton,Nat.min_def];split<;>omega)
   (fun j v C=>by
     rw [ac,G,World.cell?_setCells_out g _ _ _ _ (fun h _=>absurd h (by rw [zh];exact ai))]
     exact aj j v C)
   (fun j C=>by rw [ac];simp at C;exact S _ (by omega)) (fun j C=>by rw [aq,G,World.frozen?_setCells];exact X _) K
 rw [<-G] at I
 have ao:=Lib.hid G
 have aH:¬((i:Int)=(n:Int)):=by omega
 unfold maxLen at P
 have aF:IntKind.i64.wrap ((i:Int)+1)=(i:Int)+1:=by rw [IntKind.wrap_i64];omega
 have az:(0:Int)<=(i:Int)+1:=by omega
 have aD:i<=n:=by omega
 have aE:((i:Int)+1).toNat=i+1:=by omega
 have aA:¬(a=i+1):=by omega
 have aB:(i:Int)<=(n:Int)+1:=by omega
 have aC:¬(a=i):=by omega
 clear hn o0 o1 o2 g0 g1 g2 E B X hg ak am af ag S G V Q K aj ad H M J U Y ah hu
 go_enter Tryz.func193,Tryz.ntmps193
 have au:=fun O=>I O (a - (i+1)) (a - i)
 have ax:Tryz.prog.follows .mixedOrders=true:=by kernel_rfl
 go_wp2_with (simp only [aw])
 go_region_law_o (refine step_copy_runI rfl _ _ 157 157 rfl _ _ (by simp [Act.eval,Act.put]) (by simp [Act.eval,Act.put]) (I _ _ _) ?_)
 go_wp2_with (first | (at_builtin;refine wpList_copy_runI _ rfl _ _ 157 157 rfl _ _ rfl rfl (ae _ (fun _=>rfl) (fun _=>rfl) _ _) ?_))
 have ab:=OF.out
 have Z:=GA.out
 rw [<-ao.out] at ab Z
 refine bodyPost_ret (results_tmp rfl _ _ _) rfl ?_
 exact⟨_,rfl,ab,Z,rfl⟩
theorem Y9 (base E:Nat) (F:TypeId) (w:World) (v:Value) (l:List Nat) (x i:Nat) (hi:i<=l.length) (a:OwnU base w v l) (C:w.heap[E]? = some (.cells #[uV x] F (0,0))) (J:v.ownBlock≠some E) (hl:l.length<=1099511627776) (j:base<=w.heap.size) :
 Calls Tryz.prog 193 #[v,.int .i64 (i:Nat),.slice (some ⟨E,0,none⟩) 1 1] w fun e G=>∃ u,e=.returned u/\OwnU base G u (l.take i++x::l.drop i)/\w.grownBy G v.ownBlock/\(u.ownBlock=v.ownBlock\/u.ownBlock=some w.heap.size):=by
 by_cases N:i=l.length
 ·subst N
  rw [List.take_length,List.drop_length]
  exact zfr base E F w v l x a C hl j
 ·have B:i<l.length:=by omega
  rcases a.cases with⟨_,L⟩ | ⟨g,y,K,rfl,_⟩
  ·subst L;simp at B
  ·by_cases M:y<l.length+1
   ·refine(zfs base E F w g y l x i B a M C hl j).mono ?_
    rintro e G ⟨u,rfl,H,A,I⟩
    exact⟨u,rfl,H,⟨A.os,A.tape,A.output,A.size,fun k hk _=>A.block k hk (by simp)⟩,.inr I⟩
   ·refine(za8 base E F w g y l x i B a (by omega) C (fun e=>J (by rw [e];rfl)) hl).mono ?_
    rintro e G ⟨u,rfl,H,A,I⟩
    exact⟨u,rfl,H,A,.inl I⟩
end Go.Proofs.YtonhfknjcbakiaaGreatDoor
namespace Go.Proofs.YtonhfknjcbakiaaGreatDoor
open Go.RowKit
def DX (C:Nat->Nat->Prop) (a:Nat) (w:World) (v:Value):Nat->Nat->Prop:=fun b o=>DL C a w b o/\v.ownBlock≠some b
def OutE (C:Nat->Nat->Prop) (mb base:Nat) (w:World) (v:Value) (a:List En):Prop:=
 ∃ j,w.ownsRow base 38 3 v a.length j/\∀ i (h:i<a.length),j[i * 3]? = some (uV a[i].rep)/\j[i * 3+1]? = some (uV a[i].max)/\∃ u,j[i * 3+2]? = some u/\Dat (DX C mb w v) w u (rg a[i].holes)
theorem OutE.start (C:Nat->Nat->Prop) (a base:Nat) (w:World):OutE C a base w (.slice none 0 0) []:=⟨[],World.ownsRow_nil _ _ _ _,fun i h=>absurd h (by simp)⟩
theorem OutE.owns {C:Nat->Nat->Prop} {u base:Nat} {w:World} {v:Value} {a:List En} (h:OutE C u base w v a):∀ k,v.ownBlock=some k->base<=k/\k<w.heap.size:=by
 obtain⟨y,j,_⟩:=h
 exact j.lt
theorem DX.keep {C:Nat->Nat->Prop} {u:Nat} {w w':World} {v:Value} {x:Value} {p:PV} (h:Dat (DX C u w v) w x p) (hs:w.heap.size<=w'.heap.size) (hb:∀ k,k<w.heap.size->v.ownBlock≠some k->w'.heap[k]? = w.heap[k]?):Dat (DX C u w' v) w' x p:=
 h.mono (fun b o h=>⟨h.1.imp id fun h=>⟨h.1,Nat.lt_of_lt_of_le h.2 hs⟩,h.2⟩) fun b o x h j=>(World.cell?_of_block (a:=⟨b,o,none⟩) (hb b (World.block_lt_of_cell? w ⟨b,o,none⟩ j) h.2)).trans j
theorem OutE.keep {C:Nat->Nat->Prop} {E base:Nat} {w w':World} {v:Value} {y:List En} (h:OutE C E base w v y) (hs:w.heap.size<=w'.heap.size) (hb:∀ k,k<w.heap.size->w'.heap[k]? = w.heap[k]?):OutE C E base w' v y:=by
 obtain⟨I,A,F⟩:=h
 refine⟨I,⟨A.1,?_⟩,fun i hi=>?_⟩
 ·rcases A.2 with h | ⟨g,j,u,e,G,B,r⟩
  ·exact .inl h
  ·exact .inr ⟨g,j,u,e,G,(hb g (Array.getElem?_eq_some_iff.1 B).1).trans B,r⟩
 ·obtain⟨a,b,H,c,d⟩:=F i hi
  exact⟨a,b,H,c,DX.keep d hs fun k hk _=>hb k hk⟩
theorem OutE.push {C:Nat->Nat->Prop} {mb base:Nat} {w G:World} {v F:Value} {j:List En} {e:En} {A:List Value} {y:Value} (K:∀ i (h:i<j.length),A[i * 3]? = some (uV j[i].rep)/\A[i * 3+1]? = some (uV j[i].max)/\∃ y,A[i * 3+2]? = some y/\Dat (DX C mb w v) w y (rg j[i].holes))
 (J:w.ownsRow base 38 3 v j.length A) (M:Dat (DX C mb w v) w y (rg e.holes)) (L:∀ b o,C b o->b<mb) (N:mb<w.heap.size) (ho:G.ownsRow base 38 3 F (j.length+1) (A++[uV e.rep,uV e.max,y])) (H:w.grownBy G v.ownBlock) (u:F.ownBlock=v.ownBlock\/F.ownBlock=some w.heap.size) :
 OutE C mb base G F (j++[e]):=by
 have E:∀ {x:Value} {p:PV},Dat (DX C mb w v) w x p->Dat (DX C mb G F) G x p:=fun {x p} h=>
  h.mono (fun b o h=>⟨h.1.imp id fun h=>⟨h.1,Nat.lt_of_lt_of_le h.2 H.size⟩,fun e=>by
   rcases u with u | u
   ·exact h.2 (u.symm.trans e)
   ·rw [u] at e
    cases e
    rcases h.1 with h | h
    ·have:=L _ _ h;omega
    ·omega⟩) fun b o x h I=>(World.cell?_of_block (a:=⟨b,o,none⟩) (H.block b (World.block_lt_of_cell? w ⟨b,o,none⟩ I) fun e=>h.2 e.symm)).trans I
 have hl:=J.1
 refine⟨A++[uV e.rep,uV e.max,y],by simpa using ho,fun i hi=>?_⟩
 simp only [List.length_append,List.length_cons,List.length_nil,Nat.zero_add] at hi
 by_cases B:i<j.length
 ·obtain⟨a,b,y,c,d⟩:=K i B
  rw [List.getElem_append_left B]
  refine⟨?_,?_,y,?_,E d⟩
  ·rw [List.getElem?_append_left (by omega)];exact a
  ·rw [List.getElem?_append_left (by omega)];exact b
  ·rw [List.getElem?_append_left (by omega)];exact c
 ·obtain rfl:i=j.length:=by omega
  rw [List.getElem_append_right (Nat.le_refl _)]
  simp only [Nat.sub_self,List.getElem_cons_zero]
  refine⟨?_,?_,y,?_,E M⟩
  ·rw [List.getElem?_append_right (by omega),show j.length * 3 - A.length=0 by omega];rfl
  ·rw [List.getElem?_append_right (by omega),show j.length * 3+1 - A.length=1 by omega];rfl
  ·rw [List.getElem?_append_right (by omega),show j.length * 3+2 - A.length=2 by omega];rfl
theorem Ki {D:Nat->Nat->Prop} {w:World} {v:Value} {l:List Iv} (h:Dat D w v (rg l)):v.oneCell'=true:=by
 obtain⟨j,a,rfl⟩:=zK h
 rfl
theorem OutE.dat {C:Nat->Nat->Prop} {I base:Nat} {w:World} {v:Value} {u:List En} (h:OutE C I base w v u) (hb:I<base):Dat (DL C I w) w v (vp u):=by
 obtain⟨L,M,P⟩:=h
 rcases M.2 with⟨rfl,O⟩ | ⟨g,J,N,rfl,Y,S,X,V,hs,ht⟩
 ·obtain rfl:=List.length_eq_zero_iff.1 O
  exact .sl none 0 3 [] .sh 0 0 (fun _=>undef) (by simp) (fun h=>by cases h) (by decide) (fun h=>absurd rfl h) (fun i e h=>by simp at h) (fun j h=>by simp at h) (fun i e j p h=>by simp at h)
 ·have K:=(Array.getElem?_eq_some_iff.1 S).1
  have G:∀ j x,L[j]? = some x->w.cell? ⟨g,j,none⟩=some x:=fun j x E=>by
   have:=M.cells (g:=g) rfl j x E
   rw [zh,Nat.zero_add] at this
   exact this
  have y:∀ i (h:i<u.length) j p,(ec u[i])[j]? = some p->∃ x,L[i * 3+j]? = some x/\Dat (DL C I w) w x p/\x.oneCell'=true:=fun i h j p B=>by
   obtain⟨a,b,Z,c,d⟩:=P i h
   match j,B with
   | 0,B=>cases B;exact⟨_,a,.v _,rfl⟩
   | 1,B=>cases B;exact⟨_,b,.v _,rfl⟩
   | 2,B=>cases B;exact⟨_,c,d.mono (fun _ _ h=>h.1) fun _ _ _ _ h=>h,Ki d⟩
   | j+3,B=>simp [ec] at B
  have F:∀(i:Nat) (e:List PV),(u.map ec)[i]? = some e->∃ h:i<u.length,e=ec u[i]:=fun i e H=>by
   rw [List.getElem?_map] at H
   obtain⟨x,E,rfl⟩:=Option.map_eq_some_iff.1 H
   obtain⟨h,rfl⟩:=List.getElem?_eq_some_iff.1 E
   exact⟨h,rfl⟩
  have A:(u.map ec).length=u.length:=List.length_map _
  unfold vp
  rw [<-A]
  refine .sl (some ⟨g,0,none⟩) J 3 (u.map ec) .sh g 0 (fun j=>(L[j]?).getD undef) (by rw [A];exact X) (fun h=>by cases h) V (fun _=>rfl) (fun i e H=>?_) (fun j U=>?_) (fun i e j p H B=>?_)
  ·obtain⟨h,rfl⟩:=F i e H
   rfl
  ·rw [A] at U
   have hi:j / 3<u.length:=by omega
   have Q:j % 3<(ec u[j / 3]).length:=Nat.mod_lt _ (by decide)
   obtain⟨x,E,_,ho⟩:=y (j / 3) hi (j % 3) ((ec u[j / 3])[j % 3]) (List.getElem?_eq_getElem Q)
   rw [show j / 3 * 3+j % 3=j by omega] at E
   rw [Nat.zero_add]
   refine⟨.inr ⟨by omega,K⟩,?_,?_⟩
   ·rw [E];exact G j x E
   ·rw [E];exact ho
  ·obtain⟨h,rfl⟩:=F i e H
   obtain⟨x,E,T,_⟩:=y i h j p B
   rw [E]
   exact T
end Go.Proofs.YtonhfknjcbakiaaGreatDoor
