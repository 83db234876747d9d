import Derived.Test.YtonhfknjcbakiaaGreatDoorB13
set_option linter.unusedVariables false
set_option linter.unusedSimpArgs false
namespace Go.Proofs.YtonhfknjcbakiaaGreatDoor
open Go.RowKit
instance kpoW:Pl.Kpo World:=⟨Keep qe,fun w=>Keep.refl _ w,fun _ _ _ h k=>h.trans k⟩
namespace Pl
variable {Ω:Type} [Kpo Ω]
theorem walkE_mono {a:Oper->Act->Ω->(Act->Ω->Prop)->Prop} {a0:Act} {w0:Ω} {C:Ω->Prop} {E j:List (Option Tmp × VP Ω)->Prop} (u:∀ env,E env->j env):∀(l:List Oper) (env:List (Option Tmp × VP Ω)),walkE a a0 w0 C E l env->walkE a a0 w0 C j l env
 | [],env,h=>u env h
 | o::l,env,⟨V,h1,h2,h3⟩=>⟨V,h1,h2,walkE_mono u l _ h3⟩
omit [Kpo Ω] in
theorem finG_mono {F j:Act->Ω->Prop} {w:Ω} (hF:∀ a w,F a w->j a w):∀(env:List (Option Tmp × VP Ω)) (a:Act),finG F w env a->finG j w env a
 | [],a,h=>hF a w h
 | (none,_)::r,a,h=>finG_mono hF r a h
 | (some d,V)::r,a,h=>fun u y=>finG_mono hF r _ (h u y)
section
variable {P:Program} {Q:Exit->Act->World->Prop} {a0:Act} {w0:World} {C:World->Prop} {E:List (Option Tmp × VP World)->Prop} {l:List Oper} {o:Oper} {env:List (Option Tmp × VP World)} {f:Nat->Nat}
theorem wdetK (v:Value) (B:o.guard=none) (h:∀ a w,C w->Keep qe w0 w->Rds env a0 (zA o) a w->(execOp a.eval o).run P w=.ok (.value v) w)
 (F:walkE (xC P Q) a0 w0 C E l (env++[(o.dst,fun u _=>u=v)])):walkE (xC P Q) a0 w0 C E (jA f o::l) env:=
 ⟨fun u _=>u=v,fun _ _ _ h _=>h,by
  have j:(jA f o).guard=none:=by simp [jA,B]
  unfold stepOk
  rw [j]
  intro a w y hk G K A
  show (jA f o).wp P a w K Q
  rw [Xq]
  show o.upon P a K Q ((execOp a.eval o).run P w)
  rw [h a w y hk G]
  exact A v w (Keep.refl _ _) y rfl,F⟩
theorem wgenK (V:VP World) (hs:∀ u w y,V u w->Keep qe w y->V u y) (F:o.guard=none)
 (h:headOk (xC P Q) a0 w0 C env o V) (G:walkE (xC P Q) a0 w0 C E l (env++[(o.dst,V)])):walkE (xC P Q) a0 w0 C E (jA f o::l) env:=
 ⟨V,hs,by
  have j:(jA f o).guard=none:=by simp [jA,F]
  unfold stepOk
  rw [j]
  intro a w B hk H K A
  show (jA f o).wp P a w K Q
  rw [Xq]
  exact h a w B hk H K A,G⟩
end
end Pl
theorem znC {P:Program} {id:Nat} {l:List Oper} {Q:Exit->Act->World->Prop} {a:Act} {w:World} (σ:List Nat) (y nt:Nat) (C:World->Prop) (hm:P.follows .mixedOrders=true) (hp:q9 l.length σ=true)
 (X:(zck (z8 l σ).toArray y 1 nt && yK (z8 l σ).toArray (y+1))=true) (ad:a.tmps.size=nt) (hC:C w.drew) (j u:Oper) (hcut:(z8 l σ)[y+1]? = some j) (O:(z8 l σ)[y]? = some u) (ac:j.guard=none) (S:u.guard=none) (I:List Oper) (N:(z8 l σ).drop (y+2)=I)
 (h:Pl.walkE (xC P Q) a w.drew C (fun env=>(∀ A,C A->Keep qe w.drew A->Pl.finG (fun a w=>wpList P (z8 l σ).toArray Q (j::I) a w) A env a)/\∀ A,C A->Keep qe w.drew A->Pl.finG (fun a w=>j.wp P a w (fun a w=>wpList P (z8 l σ).toArray Q (u::I) a w) Q) A (env.take y) a) ((z8 l σ).take (y+1)) []):(Code.region id l.toArray true).wp P Q a w:=by
 refine wp_region_any hm ?_
 refine xd hp ?_
 generalize z8 l σ=L at *
 rw [Bool.and_eq_true] at X
 obtain⟨ae,U,hR,H,B,G⟩:=KI X.1
 have hs:y+2<=L.length:=by simpa using U
 have ab:L.drop (y+1)=j::I:=by
  rw [List.drop_eq_getElem_cons (by omega),N]
  rw [List.getElem?_eq_getElem (by omega)] at hcut
  rw [Option.some.inj hcut]
 obtain⟨V,F⟩:∃ V:Nat->Act->World->Prop,V=fun c=>match c with | 0=>wpList P L.toArray Q (u::I) | _=>wpList P L.toArray Q I:=⟨_,rfl⟩
 refine Pl.greadyC (Ω:=World) (ops:=L.toArray) (nh:=y) (r:=1) (a0:=a) (w0:=w.drew) (C:=C) rfl (xC P Q) (wpOp P L.toArray Q) (wpAny P .any L.toArray Q) (fun a w=>Q .normal a w) (fun k a w=>wpList P L.toArray Q (L.drop k) a w)
  ?_ (fun i K K' a w hk hs=>wpOp_mono hk hs) (fun E a w J M=>⟨J,M⟩) (fun af E a w J M=>⟨J,M⟩) ?_ ?_ ae hR H B G X.2 U V ?_ ?_ ad hC (Pl.walkE_mono ?_ _ _ h)
 ·intro i o K a w ho hs
  unfold wpOp
  simp only [ho]
  split
  ·rename_i hw;rw [if_pos hw] at hs;exact .inl hs
  ·rename_i hw;rw [if_neg hw] at hs;exact hs
 ·intro k a w hk ht
  have T:k<L.length:=by simpa using hk
  simp only [List.drop_eq_getElem_cons T,wpList] at ht
  unfold wpOp
  simp only [List.getElem?_toArray,List.getElem?_eq_getElem T]
  exact ht
 ·intro a w ht
  simpa [wpList] using ht
 ·intro c a w Z ht
  obtain rfl:c=0:=by omega
  rw [F] at ht ⊢
  simp only [wpList,if_pos (show Region.wanted u (yielded L.toArray a.tmps)=true by simp [Region.wanted,S])] at ht
  unfold wpOp
  simp only [List.getElem?_toArray,Nat.add_zero,O]
  rw [if_pos (show Region.wanted u (yielded L.toArray a.tmps)=true by simp [Region.wanted,S])]
  exact ht
 ·intro a w ht
  rw [F] at ht
  show wpList P L.toArray Q (L.drop (y+2)) a w
  rw [N]
  exact ht
 ·rintro env ⟨J,M⟩
  refine⟨fun A Z hk=>?_,fun c Z A Y hk=>?_⟩
  ·rw [ab];exact J A Z hk
  ·obtain rfl:c=0:=by omega
   refine Pl.finG_mono (fun a w h=>?_) _ _ (M A Y hk)
   unfold wpOp
   simp only [List.getElem?_toArray,hcut]
   rw [if_pos (show Region.wanted j (yielded L.toArray a.tmps)=true by simp [Region.wanted,ac]),F]
   exact .inl h
end Go.Proofs.YtonhfknjcbakiaaGreatDoor
