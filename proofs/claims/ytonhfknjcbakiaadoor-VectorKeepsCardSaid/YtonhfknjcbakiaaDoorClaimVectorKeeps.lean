import Derived.Test.YtonhfknjcbakiaaDoorCards
import Derived.Test.YtonhfknjcbakiaaDoorTie
import Derived.Test.YtonhfknjcbakiaaDoorB39
import Derived.Test.YtonhfknjcbakiaaDoorB40
import Derived.SevenTiedAt
import Derived.WalkKit
import Derived.ProofKit
import Derived.OpenShut
import Derived.ShutString
import Derived.ChangeOld
import Derived.Below
set_option linter.unusedVariables false
set_option linter.unusedSimpArgs false
namespace Go.Proofs.YtonhfknjcbakiaaDoor.vectorKeepsDone
open Go.ChangeShapes Go.WideShapes Go.ChangeAt Go.RowKit
set_option maxRecDepth 100000 in
theorem lifted (os:Os) (started:os.Started) (H:Type) (enc:TypeId × Value->H) :
 ReturnsInHanded {} Tryd.checked os 3 .any (fun w args=>(Rows.vectorKeepsSpec.pre enc Tryd.prog Tryd.f3 [] false w args/\laidMetH Tryd.prog Rows.vectorKeepsRow.laid w)/\sizedMet enc Tryd.prog Tryd.f3 (OpenSpec.ofChange Rows.vectorKeepsSpec) false w args) (Rows.vectorKeepsSpec.post enc Tryd.prog Tryd.f3 false true false false):=by
 refine returnsInHanded_of_change_and (C:=Tryd.checked) (X:=fun w _=>laidMetH Tryd.prog Rows.vectorKeepsRow.laid w) (fun _ _ _ hh h=>h.of_heap hh) own started (by kernel_rfl) Tryd.func3
  (ChangeSpec.witness_at (enc:=enc) (C:=Tryd.checked) (os:=os) (X:=fun w _=>laidMetH Tryd.prog Rows.vectorKeepsRow.laid w) false (Yx os) #[.slice none 0 0] 8 rfl (by kernel_rfl) (by kernel_rfl) (by kernel_rfl) (by kernel_rfl) (by kernel_rfl) (Q3 os _)) ?_
 intro W base args ds gs before hval0 hW hcnd _ hL _
 have hval:∀(j:Nat) t v,Tryd.f3.params[j]? = some t->args[j]? = some v->Value.okWide Tryd.prog W .any base t v:=hval0
 have hW':=hW
 obtain⟨p,q,hA0,hV,rfl,hfz,hnd⟩:=hW
 have hA:DataW.TrodAll enc Tryd.prog W 0 (fun _=>true) true Tryd.f3.params.toList args.toList ds p:=hA0
 rw [Tryd.params3] at hA hval
 obtain⟨v0,vs0,d0,ds0,p0,q0,hargs,rfl,rfl,h0,r0⟩:=trodAll_cons hA
 obtain⟨rfl,rfl,rfl⟩:=trodAll_nil r0
 obtain rfl:args=#[v0]:=by cases args;simp_all
 obtain⟨rfl,rfl⟩:=trodVars_none hV
 have lt0:∀ x ∈ p0,x.block<W.heap.size:=by obtain⟨m,hm⟩:=h0;exact DataW.trod_lt m _ _ _ hm
 obtain⟨x0,e0,g0⟩:=zrG (hval 0 23 v0 rfl rfl) h0
 clear hA0 hval0
 refine(zeZ (l:=[v0]) (zq4 x0 g0) (JH hL) ⟨e0,trivial⟩).mono fun e W' ⟨he,bel⟩=>?_
 subst he
 exact⟨_,rfl,_,_,_,[],_,[],hW',trodAll_mk1 (shut_bool Tryd.underlying4 _),(trodAll_cons_mk (Below.trod Xc (by kernel_rfl) (of_decide_eq_true (by kernel_rfl)) h0 bel lt0) trodAll_mk0),rfl,bel.frame _,fun h=>by cases h⟩
theorem row:Rows.VectorKeepsSaid:=
 OpenClaim.holds_of_wide 3 Tryd.f3 rfl rfl rfl rfl rfl rfl rfl ⟨rfl,rfl,rfl,rfl,rfl⟩ rfl rfl rfl rfl rfl (by kernel_rfl) Tryd.func3 (by kernel_rfl)
  (of_decide_eq_true (by kernel_rfl)) (by unfold Func.isWrapper;first | (rw [if_pos (by decide +kernel)];kernel_rfl) | (rw [if_neg (by decide +kernel)];exact⟨rfl,rfl⟩))
  (fun os started H enc _=>lifted os started H enc)
set_option maxRecDepth 100000 in
theorem proved:Rows.VectorKeepsCardSaid:=
 Claim7.holds_tied_plain_at .later [] [.handle] true (true, "27c87e1d9665a4d6340fcf1fbfb4d83baa089bc1e98f4d50cf4af842f40dd7eb") true
  row (fun _ h=>by cases h) (by kernel_rfl) (fun _ h=>by cases h) vectorKeeps_row_tie rfl ⟨rfl,rfl⟩ (by kernel_rfl) rfl
  (fun f fn hf hfn=>by
    obtain rfl:f = 3 := Option.some.inj ((show Tryd.prog.funcNamed "kenning/kenninglaw09.VectorKeeps" = some 3 by kernel_rfl).symm.trans hf) |>.symm
    obtain rfl:fn=Tryd.f3 := (Option.some.inj (Tryd.func3.symm.trans hfn)).symm
    exact⟨by kernel_rfl,fun j t ht=>by
     rw [Tryd.params3] at ht
     have ht3:t = 23 := by
      rcases j with _ | j
      ·simp at ht;simp [<-ht]
      ·simp at ht
     rcases ht3 with rfl
     ·exact(show Tryd.prog.wantsStandIn 23 = false by kernel_rfl)
     ⟩)
  (by kernel_rfl)
#print axioms proved
end Go.Proofs.YtonhfknjcbakiaaDoor.vectorKeepsDone
