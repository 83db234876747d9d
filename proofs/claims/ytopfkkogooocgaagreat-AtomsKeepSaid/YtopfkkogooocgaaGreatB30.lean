import Derived.Test.YtopfkkogooocgaaGreatB13
set_option linter.unusedVariables false
set_option linter.unusedSimpArgs false
namespace Go.Proofs.YtopfkkogooocgaaGreat
open Go.RowKit
instance kpoW:Pl.Kpo World:=⟨Keep qe,fun w=>Keep.refl _ w,fun _ _ _ h k=>h.trans k⟩
namespace Pl
variable {Ω:Type} [Kpo Ω]
theorem walkE_mono {opw:Oper->Act->Ω->(Act->Ω->Prop)->Prop} {a0:Act} {w0:Ω} {C:Ω->Prop} {E E':List (Option Tmp × VP Ω)->Prop} (hE:∀ env,E env->E' env):∀(l:List Oper) (env:List (Option Tmp × VP Ω)),walkE opw a0 w0 C E l env->walkE opw a0 w0 C E' l env
 | [],env,h=>hE env h
 | o::l,env,⟨V,h1,h2,h3⟩=>⟨V,h1,h2,walkE_mono hE l _ h3⟩
omit [Kpo Ω] in
theorem finG_mono {F F':Act->Ω->Prop} {w:Ω} (hF:∀ a w,F a w->F' a w):∀(env:List (Option Tmp × VP Ω)) (a:Act),finG F w env a->finG F' w env a
 | [],a,h=>hF a w h
 | (none,_)::r,a,h=>finG_mono hF r a h
 | (some d,V)::r,a,h=>fun u hu=>finG_mono hF r _ (h u hu)
section
variable {P:Program} {Q:Exit->Act->World->Prop} {a0:Act} {w0:World} {C:World->Prop} {E:List (Option Tmp × VP World)->Prop} {l:List Oper} {o:Oper} {env:List (Option Tmp × VP World)} {f:Nat->Nat}
theorem wdetK (v:Value) (hg:o.guard=none) (h:∀ a w,C w->Keep qe w0 w->Rds env a0 (zA o) a w->(execOp a.eval o).run P w=.ok (.value v) w)
 (hn:walkE (xC P Q) a0 w0 C E l (env++[(o.dst,fun u _=>u=v)])):walkE (xC P Q) a0 w0 C E (jA f o::l) env:=
 ⟨fun u _=>u=v,fun _ _ _ h _=>h,by
  have hg':(jA f o).guard=none:=by simp [jA,hg]
  unfold stepOk
  rw [hg']
  intro a w hc hk hr K hK
  show (jA f o).wp P a w K Q
  rw [Xq]
  show o.upon P a K Q ((execOp a.eval o).run P w)
  rw [h a w hc hk hr]
  exact hK v w (Keep.refl _ _) hc rfl,hn⟩
theorem wgenK (V:VP World) (hs:∀ u w w',V u w->Keep qe w w'->V u w') (hg:o.guard=none)
 (h:headOk (xC P Q) a0 w0 C env o V) (hn:walkE (xC P Q) a0 w0 C E l (env++[(o.dst,V)])):walkE (xC P Q) a0 w0 C E (jA f o::l) env:=
 ⟨V,hs,by
  have hg':(jA f o).guard=none:=by simp [jA,hg]
  unfold stepOk
  rw [hg']
  intro a w hc hk hr K hK
  show (jA f o).wp P a w K Q
  rw [Xq]
  exact h a w hc hk hr K hK,hn⟩
end
end Pl
theorem znC {P:Program} {id:Nat} {l:List Oper} {Q:Exit->Act->World->Prop} {a:Act} {w:World} (σ:List Nat) (nh nt:Nat) (C:World->Prop) (hm:P.follows .mixedOrders=true) (hp:q9 l.length σ=true)
 (hB:(zck (z8 l σ).toArray nh 1 nt && yK (z8 l σ).toArray (nh+1))=true) (hnt:a.tmps.size=nt) (hC:C w.drew) (cut flo:Oper) (hcut:(z8 l σ)[nh+1]? = some cut) (hflo:(z8 l σ)[nh]? = some flo) (hg1:cut.guard=none) (hg2:flo.guard=none) (L2:List Oper) (hL2:(z8 l σ).drop (nh+2)=L2)
 (h:Pl.walkE (xC P Q) a w.drew C (fun env=>(∀ w',C w'->Keep qe w.drew w'->Pl.finG (fun a w=>wpList P (z8 l σ).toArray Q (cut::L2) a w) w' env a)/\∀ w',C w'->Keep qe w.drew w'->Pl.finG (fun a w=>cut.wp P a w (fun a w=>wpList P (z8 l σ).toArray Q (flo::L2) a w) Q) w' (env.take nh) a) ((z8 l σ).take (nh+1)) []):(Code.region id l.toArray true).wp P Q a w:=by
 refine wp_region_any hm ?_
 refine xd hp ?_
 generalize z8 l σ=L at *
 rw [Bool.and_eq_true] at hB
 obtain⟨hr0,hsz,hR,hlead,hchain,hback⟩:=KI hB.1
 have hs:nh+2<=L.length:=by simpa using hsz
 have hd1:L.drop (nh+1)=cut::L2:=by
  rw [List.drop_eq_getElem_cons (by omega),hL2]
  rw [List.getElem?_eq_getElem (by omega)] at hcut
  rw [Option.some.inj hcut]
 obtain⟨CT,hCT⟩:∃ CT:Nat->Act->World->Prop,CT=fun c=>match c with | 0=>wpList P L.toArray Q (flo::L2) | _=>wpList P L.toArray Q L2:=⟨_,rfl⟩
 refine Pl.greadyC (Ω:=World) (ops:=L.toArray) (nh:=nh) (r:=1) (a0:=a) (w0:=w.drew) (C:=C) rfl (xC P Q) (wpOp P L.toArray Q) (wpAny P .any L.toArray Q) (fun a w=>Q .normal a w) (fun k a w=>wpList P L.toArray Q (L.drop k) a w)
  ?_ (fun i K K' a w hk hs=>wpOp_mono hk hs) (fun listed a w h1 h2=>⟨h1,h2⟩) (fun fuel listed a w h1 h2=>⟨h1,h2⟩) ?_ ?_ hr0 hR hlead hchain hback hB.2 hsz CT ?_ ?_ hnt hC (Pl.walkE_mono ?_ _ _ h)
 ·intro i o K a w ho hs
  unfold wpOp
  simp only [ho]
  split
  ·rename_i hw;rw [if_pos hw] at hs;exact .inl hs
  ·rename_i hw;rw [if_neg hw] at hs;exact hs
 ·intro k a w hk ht
  have hk':k<L.length:=by simpa using hk
  simp only [List.drop_eq_getElem_cons hk',wpList] at ht
  unfold wpOp
  simp only [List.getElem?_toArray,List.getElem?_eq_getElem hk']
  exact ht
 ·intro a w ht
  simpa [wpList] using ht
 ·intro c a w hc ht
  obtain rfl:c=0:=by omega
  rw [hCT] at ht ⊢
  simp only [wpList,if_pos (show Region.wanted flo (yielded L.toArray a.tmps)=true by simp [Region.wanted,hg2])] at ht
  unfold wpOp
  simp only [List.getElem?_toArray,Nat.add_zero,hflo]
  rw [if_pos (show Region.wanted flo (yielded L.toArray a.tmps)=true by simp [Region.wanted,hg2])]
  exact ht
 ·intro a w ht
  rw [hCT] at ht
  show wpList P L.toArray Q (L.drop (nh+2)) a w
  rw [hL2]
  exact ht
 ·rintro env ⟨h1,h2⟩
  refine⟨fun w' hc hk=>?_,fun c hc w' hC' hk=>?_⟩
  ·rw [hd1];exact h1 w' hc hk
  ·obtain rfl:c=0:=by omega
   refine Pl.finG_mono (fun a w h=>?_) _ _ (h2 w' hC' hk)
   unfold wpOp
   simp only [List.getElem?_toArray,hcut]
   rw [if_pos (show Region.wanted cut (yielded L.toArray a.tmps)=true by simp [Region.wanted,hg1]),hCT]
   exact .inl h
end Go.Proofs.YtopfkkogooocgaaGreat
