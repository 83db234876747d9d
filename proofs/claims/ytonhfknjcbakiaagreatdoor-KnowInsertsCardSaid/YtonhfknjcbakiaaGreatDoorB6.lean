import Derived.Test.YtonhfknjcbakiaaGreatDoorB5
set_option maxHeartbeats 16000000
set_option linter.unusedVariables false
set_option linter.unusedSimpArgs false
set_option maxRecDepth 100000
namespace Go.Proofs.YtonhfknjcbakiaaGreatDoor
open Go.RowKit
attribute [local go_sem] Oper.semAt_some
theorem Vu (a:Option Addr) (n c:Nat) (w:World):Calls Tryz.prog 214 #[.slice a n c] w fun e j=>e=.returned (.func (.func 229) #[] #[.pointer (some ⟨w.heap.size,0,none⟩)])/\j=w.alloc (.cells #[.slice a n c] 32):=by
 go_enter Tryz.func214,Tryz.ntmps214
 go_wp2
 go_ret
 exact⟨rfl,rfl⟩
def OwnN (base:Nat) (w:World) (v:Value) (a:List Nat):Prop:=w.ownsRow base 24 1 v a.length (a.map fun x=>.int .u64 (x:Nat))
theorem OwnN.nil (base:Nat) (w:World):OwnN base w (.slice none 0 0) []:=World.ownsRow_nil _ _ _ _
theorem OwnN.keep {base:Nat} {S:Nat->Prop} {w w':World} {v:Value} {l:List Nat} (h:OwnN base w v l) (hb:Keep S w w') (hs:∀ g,base<=g->g<w.heap.size->¬ S g):OwnN base w' v l:=
 hb.ownsRow h fun g a=>hs g (h.lt g a).1 (h.lt g a).2
theorem OwnN.mono {base a:Nat} {w:World} {v:Value} {l:List Nat} (h:OwnN base w v l) (hb:a<=base):OwnN a w v l:=by
 refine⟨h.1,?_⟩
 rcases h.2 with A | ⟨g,j,u,B,y,r⟩
 ·exact .inl A
 ·exact .inr ⟨g,j,u,B,Nat.le_trans hb y,r⟩
def SN (a:Nat) (A B:World):Prop:=(∃ v,Boxed A a 157 v)/\Keep (fun k=>k=a\/(a+4<=k/\∃ j f,A.heap[k]? = some (.cells j 24 f))) A B
theorem SN.pt {y:Nat} {A B:World} (h:SN y A B):PtE y (y+1) A B:=by
 obtain⟨⟨v,F⟩,hk⟩:=h
 refine⟨hk.size,fun k u a=>hk.block k u ?_⟩
 rintro(rfl | ⟨H,C,f,j⟩)
 ·rcases a with a | a | ⟨C,f,t,a,ht⟩
  ·omega
  ·omega
  ·have w:A.heap[k]? = some (.cells #[v] 157 (0,0)):=F
   rw [w] at a
   cases a
   rcases ht with ht | ht<;>cases ht
 ·rcases a with a | a | ⟨E,G,t,a,ht⟩
  ·omega
  ·omega
  ·rw [j] at a
   cases a
   rcases ht with ht | ht<;>cases ht
theorem Q5 {W C:World} {w:Nat} {v A:Value} {M ys:List Nat} {B:Obj}
 (G:Boxed W w 157 v) (u:OwnN (w+4) W v M) (y:C.ownsRow (w+4) 24 1 A ys.length (ys.map fun x=>.int .u64 (x:Nat))) (a:(W.alloc B).grownBy C v.ownBlock) :
 Boxed (C.setCell ⟨w,0,none⟩ A) w 157 A/\OwnN (w+4) (C.setCell ⟨w,0,none⟩ A) A ys/\SN w W (C.setCell ⟨w,0,none⟩ A):=by
 have F : 157 ≠ 24 := by decide
 obtain⟨N,J,K,O⟩:=qO G F u y a
 refine⟨J,K,⟨v,G⟩,?_⟩
 refine Keep.setCell (p:=⟨w,0,none⟩) ?_ (fun _=>.inl rfl) _
 refine((Keep.refl _ W).alloc B).grown a fun j E _=>.inr ⟨(u.lt j E).1,?_⟩
 rcases u.2 with⟨rfl,_⟩ | ⟨g,H,I,rfl,P,L,_⟩
 ·cases E
 ·have:g=j:=by simpa [Value.ownBlock] using E
  subst this
  exact⟨_,_,L⟩
theorem Tryz.infoU:(Tryz.prog.info? 24).map (fun i=>(i.zero,i.size,i.bytes))=some (some (Value.int .u64 0),1,8):=by kernel_rfl
theorem Q4 (v:List En) (va:Value) (w:World) (hv:RdV w.heap.size w va v) (ab:(zv v).length<=1073741824) :
 Calls Tryz.prog 200 #[va] w fun e Y=>∃ u,e=.returned u/\OwnN w.heap.size Y u (zv v)/\Below w.heap.size w Y:=by
 have HV:=Lib.hid hv
 obtain⟨M,J,rfl,_⟩:=hv
 refine callsIn_wide.1 (callsIn_of_wp_marks (n:=9) Tryz.func200 rfl trivial ?_ rfl)
 simp only [Tryz.ntmps200,List.size_toArray,List.length_cons,List.length_nil,Nat.reduceAdd,Nat.reduceSub,Array.replicate_succ,Array.replicate_zero,List.push_toArray,List.append_toArray,List.nil_append,List.cons_append]
 gi_wp2_with (refine⟨trivial,?_⟩;gi_at_call 214;refine(callsIn_wide.2 (Vu _ _ _ _)).mono ?_;rintro e Y ⟨rfl,rfl⟩)
 obtain⟨I,H⟩:∃ I,((w.alloc (Obj.cells #[Value.slice none 0 0] 157)).alloc (Obj.cells #[Value.slice M v.length J] 32))=I:=⟨_,rfl⟩
 have ac:I.heap.size=w.heap.size+2:=by rw [<-H];simp
 have b0:Boxed I w.heap.size 157 (Value.slice none 0 0):=by rw [<-H];exact(Boxed.new w _ _).alloc _
 have b1:Boxed I (w.heap.size+1) 32 (Value.slice M v.length J):=by rw [<-H];have:=Boxed.new (w.alloc (Obj.cells #[Value.slice none 0 0] 157)) 32 (Value.slice M v.length J);rw [World.size_alloc] at this;exact this
 have N:Below w.heap.size w I:=by rw [<-H];exact((Below.refl _ _).alloc (Nat.le_refl _) _).alloc (by simp) _
 try simp only [World.size_alloc]
 rw [H]
 clear H
 refine Xt (w:=I) 229 #[.pointer (some ⟨w.heap.size+1,0,none⟩)] rfl (enters_of Tryz.func229 (by kernel_rfl) rfl) (fun x:Nat=>#[.int .u64 x]) (fun _=>rfl)
  (fun _=>False) (PtE w.heap.size (w.heap.size+1)) (zv v) ?hit
  (SN w.heap.size) (fun A B h k hk K=>h.2.block k K (by rintro(e | ⟨e,_⟩)<;>omega)) (fun A B h=>h.pt)
  ?hPt ?hPt0 ⟨id,id⟩
  (fun pre W=>(∃ u,Boxed W w.heap.size 157 u/\OwnN (w.heap.size+4) W u pre)/\Below w.heap.size w W)
  (fun _ _ _=>False) ?hI (fun _ _ _ _ h _=>h) ⟨⟨_,b0,OwnN.nil _ _⟩,N⟩
  (fun pre x P W=>((∃ u,Boxed W w.heap.size 157 u/\OwnN (w.heap.size+4) W u pre)/\Below w.heap.size w W) /\
    P={ tmps:=#[Value.slice M v.length J,undef,Value.slice none 0 0,Value.pointer (some ⟨w.heap.size,0,none⟩),.int .u64 (x:Nat),Value.slice M v.length J,Value.func (Fn.func 229) #[] #[Value.pointer (some ⟨w.heap.size+1,0,none⟩)],.int .u64 (x:Nat),undef,undef,undef,undef,undef],defers:=[] })
  ?hAx ?hassign ?hbody ?hdone (fun _ _ _ _ h _=>h.elim)
 case hit=>
  intro W hk _
  exact Vt v _ (w.heap.size+1) w.heap.size W (RdV.keep HV.out fun k T=>((N.trans (hk.below (by omega) fun _ _=>id)).block k T)) (hk.boxed b1 id) (by have:=hk.size;omega)
 case hPt=>
  rintro A B C ⟨y,G⟩ ⟨E,h4⟩
  refine⟨Nat.le_trans y E,fun k hk j=>?_⟩
  have e1:=G k hk j
  refine(h4 k (by omega) ?_).trans e1
  rcases j with j | j | ⟨cs,f,t,j,ht⟩
  ·exact .inl j
  ·exact .inr (.inl j)
  ·exact .inr (.inr ⟨cs,f,t,by rw [e1];exact j,ht⟩)
 case hPt0=>
  rintro A B hk ⟨o,ho⟩
  refine⟨hk.size,fun k K j=>hk.block k K ?_⟩
  rintro rfl
  rcases j with j | j | ⟨cs,f,t,j,ht⟩
  ·omega
  ·omega
  ·rw [ho] at j;cases j
 case hI=>
  rintro pre A B ⟨⟨u,y,G⟩,E⟩ S
  have hk:Keep (fun k=>k=I.heap.size\/k=I.heap.size+1) A B:=S.mono fun _ _ h=>h.elim False.elim id
  exact⟨⟨u,hk.boxed y (by omega),G.keep hk (fun g hg _=>by omega)⟩,E.trans (hk.below E.size fun k hk=>by omega)⟩
 case hAx=>
  rintro pre x P A B ⟨⟨⟨u,y,G⟩,E⟩,rfl⟩ hk
  exact⟨⟨⟨u,hk.boxed y (by omega),G.keep hk (fun g hg _=>by omega)⟩,E.trans (hk.below E.size fun k hk=>by omega)⟩,rfl⟩
 case hassign=>
  rintro l pre x W L K ⟨⟨u,y,G⟩,E⟩
  clear L
  gi_wp2
  exact⟨⟨⟨u,y⟩,Keep.refl _ _⟩,⟨⟨u,y,G⟩,E⟩,trivial⟩
 case hbody=>
  rintro l pre x P W L K ⟨⟨⟨u,y,G⟩,E⟩,rfl⟩
  have j:=y.cell
  have hf:=y.frozen
  obtain⟨i0,Q,U,V,X⟩:=info_parts Tryz.infoU
  have hl:pre.length+1<=(zv v).length:=by have:=L.length_le;simpa using this
  gi_wp2_with (gi_at_builtin;refine wpListIn_append_own _ rfl _ _ 157 rfl (w.heap.size+4) 24 i0 (.int .u64 0) 1 8 Tryz.underlying157 Q U V X rfl (by decide) _ _ _ rfl (G.alloc _) ⟨W.heap.size,0,none⟩ 1 1 [.int .u64 (x:Nat)] rfl rfl (kw (cs:=#[.int .u64 (x:Nat)]) (t := 24) (fr:=(0,0)) (World.alloc_heap_new W _)) (by simp [Value.oneCell']) (by unfold maxLen;omega) (by omega) (by rw [World.size_alloc];omega) ?_;intro v' w3 a F _;obtain⟨g',Z,rfl⟩:=ownsRow_succ a;obtain⟨q2,q3,q4⟩:=Q5 (ys:=pre++[x]) y G (by simpa using a) F;have ad:=(qO y (by decide) G a F).1.cell;have ae:=(qO y (by decide) G a F).1.frozen)
  exact⟨q4,⟨_,q2,q3⟩,E.trans (q4.2.below E.size fun k hk=>by rintro(e | ⟨e,_⟩)<;>omega)⟩
 case hdone=>
  rintro W ⟨⟨u,y,G⟩,E⟩ hD
  have j:=y.cell
  gi_wp2
  refine⟨by simp,.inl ⟨_,_,rfl,run_takeDeferred hD,?_⟩⟩
  have O:Keep (fun k=>k=I.heap.size) W (W.putObj I.heap.size (.deferred none)):=(Keep.refl (fun k=>k=I.heap.size) W).putObj (fun _=>rfl) _
  exact⟨_,results_tmp rfl _ _ _,u,rfl,OwnN.mono (G.keep O fun g hg _=>by omega) (by omega),E.trans (O.below E.size fun k hk=>by omega)⟩
end Go.Proofs.YtonhfknjcbakiaaGreatDoor
