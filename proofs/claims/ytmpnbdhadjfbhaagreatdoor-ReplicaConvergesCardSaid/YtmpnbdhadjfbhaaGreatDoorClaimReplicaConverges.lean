import Derived.Test.YtmpnbdhadjfbhaaGreatDoorB28
import Derived.Test.YtmpnbdhadjfbhaaGreatDoorCards
import Derived.Test.YtmpnbdhadjfbhaaGreatDoorTie
import Derived.SevenTiedAt
import Derived.WalkKit
import Derived.ProofKit
import Derived.OpenShut
import Derived.ShutString
import Derived.ChangeOld
import Derived.Below
set_option linter.unusedVariables false
set_option linter.unusedSimpArgs false
open Go.Proofs.YtmpnbdhadjfbhaaGreatDoor.Rows
namespace Go.Proofs.YtmpnbdhadjfbhaaGreatDoor.replicaConvergesDone
open Go.ChangeShapes Go.WideShapes Go.ChangeAt Go.RowKit
set_option maxRecDepth 100000 in
theorem lifted (os:Os) (started:os.Started) (H:Type) (enc:TypeId × Value->H) :
 ReturnsInHanded {} Tryz.checked os 3 .any (λ w args=>(replicaConvergesSpec.pre enc Tryz.prog Tryz.f3 [] false w args/\laidMetH Tryz.prog replicaConvergesRow.laid w)/\sizedMet enc Tryz.prog Tryz.f3 (OpenSpec.ofChange replicaConvergesSpec) false w args) (replicaConvergesSpec.post enc Tryz.prog Tryz.f3 false true false false):=by
 refine returnsInHanded_of_change_and (C:=Tryz.checked) (X:=fun w _=>laidMetH Tryz.prog replicaConvergesRow.laid w) (λ _ _ _ hh h=>h.of_heap hh) own started (by kernel_rfl) Tryz.func3
  (ChangeSpec.witness_at (enc:=enc) (C:=Tryz.checked) (os:=os) (X:=fun w _=>laidMetH Tryz.prog replicaConvergesRow.laid w) false (Yx os) #[.slice none 0 0,.slice none 0 0] 8 rfl (by kernel_rfl) (by kernel_rfl) (by kernel_rfl) (by kernel_rfl) (by kernel_rfl) (Q3 os _)) ?_
 intro W base args ds gs before hval0 hW hcnd _ hL _
 have hval:∀(j:Nat) t v,Tryz.f3.params[j]? = some t->args[j]? = some v->Value.okWide Tryz.prog W .any base t v:=hval0
 have hW':=hW
 obtain⟨p,q,hA0,hV,rfl,hfz,hnd⟩:=hW
 have hA:DataW.TrodAll enc Tryz.prog W 0 (λ _=>true) true Tryz.f3.params.toList args.toList ds p:=hA0
 rw [Tryz.params3] at hA hval
 obtain⟨v0,vs0,d0,ds0,p0,q0,hargs,rfl,rfl,h0,r0⟩:=trodAll_cons hA
 obtain⟨v1,vs1,d1,ds1,p1,q1,rfl,rfl,rfl,h1,r1⟩:=trodAll_cons r0
 obtain⟨rfl,rfl,rfl⟩:=trodAll_nil r1
 obtain rfl:args=#[v0,v1]:=by cases args;simp_all
 obtain⟨rfl,rfl⟩:=trodVars_none hV
 have lt0:∀ x ∈ p0,x.block<W.heap.size:=by obtain⟨m,hm⟩:=h0;exact DataW.trod_lt m _ _ _ hm
 have lt1:∀ x ∈ p1,x.block<W.heap.size:=by obtain⟨m,hm⟩:=h1;exact DataW.trod_lt m _ _ _ hm
 obtain⟨x0,e0,g0⟩:=zwo (hval 0 22 v0 rfl rfl) h0
 obtain⟨x1,e1,g1⟩:=zrh (hval 1 24 v1 rfl rfl) h1
 clear hA0 hval0
 refine(zeZ (l:=[v0,v1]) (zwB x0 x1 g0 g1) (JH hL) ⟨e0,e1,trivial⟩).mono λ e W' ⟨he,bel⟩=>?_
 subst he
 exact⟨_,rfl,_,_,_,[],_,[],hW',trodAll_mk1 (shut_bool Tryz.underlying4 _),(trodAll_cons_mk (Below.trod Xc (by kernel_rfl) (of_decide_eq_true (by kernel_rfl)) h0 bel lt0) (trodAll_cons_mk (Below.trod Xc (by kernel_rfl) (of_decide_eq_true (by kernel_rfl)) h1 bel lt1) trodAll_mk0)),rfl,bel.frame _,fun h=>by cases h⟩
theorem c0:(replicaConvergesRow.wf (OpenSpec.ofChange replicaConvergesSpec))=true:=by kernel_rfl
theorem c2:(mapsRowed Tryz.prog)=true:=by kernel_rfl
theorem c3:(Tryz.f3.params.all (Tryz.prog.readableRec ·))=true:=by kernel_rfl
theorem c4:(namedTie Tryz.prog replicaConvergesRow.named replicaConvergesSpec.vars)=true:=by kernel_rfl
theorem c5:((replicaConvergesRow.stops == []))=true:=by kernel_rfl
theorem c6:((Tryz.prog.stops == []))=true:=by kernel_rfl
theorem c7:((replicaConvergesRow.knobs == []))=true:=by kernel_rfl
theorem c8:((Tryz.prog.stopKnobs == []))=true:=by kernel_rfl
theorem c9:((replicaConvergesRow.inPlace == Tryz.prog.inPlace 3))=true:=by kernel_rfl
theorem c10:((replicaConvergesRow.unfollowed == Tryz.prog.unfollowed 3))=true:=by kernel_rfl
theorem c11:((replicaConvergesRow.recurses == Tryz.prog.recurses 3))=true:=by kernel_rfl
theorem c12:((replicaConvergesRow.named == Tryz.prog.varsNamed 3))=true:=by kernel_rfl
theorem c13:((replicaConvergesRow.maps == (Tryz.f3.params.toList++replicaConvergesSpec.plain.varTypes Tryz.prog).any (Tryz.prog.mapsRec ·)))=true:=by kernel_rfl
theorem c14:((replicaConvergesRow.ifaces == (Tryz.f3.params.toList++replicaConvergesSpec.plain.varTypes Tryz.prog).any (Tryz.prog.ifacesRec ·)))=true:=by kernel_rfl
theorem c15:((replicaConvergesRow.mapsOut == Tryz.prog.mapsAmong Tryz.f3.resultTypes.toList))=true:=by kernel_rfl
theorem c16:((replicaConvergesRow.loops == (Tryz.f3.params.toList++replicaConvergesSpec.plain.varTypes Tryz.prog).any (Tryz.prog.loopsFrom ·)))=true:=by kernel_rfl
theorem c17:((replicaConvergesRow.wideKeys == (Tryz.f3.params.toList++replicaConvergesSpec.plain.varTypes Tryz.prog++Tryz.f3.resultTypes.toList).any (Tryz.prog.wideKeysFrom ·)))=true:=by kernel_rfl
theorem c18:(replicaConvergesSpec.vars.all (Tryz.prog.varReadable ·))=true:=by kernel_rfl
theorem c19:(Tryz.f3.resultTypes.all (λ t=>Tryz.prog.readableRec t && decide (t < Tryz.prog.types.size)))=true:=by kernel_rfl
theorem c20:((replicaConvergesRow.ifacesOut == Tryz.f3.resultTypes.toList.any (Tryz.prog.ifacesRec ·)))=true:=by kernel_rfl
theorem c21:((replicaConvergesRow.loopsOut == Tryz.f3.resultTypes.toList.any (Tryz.prog.loopsFrom ·)))=true:=by kernel_rfl
theorem c22:((replicaConvergesRow.plainKeys == Tryz.prog.plainKeys))=true:=by kernel_rfl
theorem c23:(replicaConvergesRow.shortTexts.isNone)=true:=by kernel_rfl
theorem c24:(Tryz.prog.stopsHeard)=true:=by kernel_rfl
theorem c28:((replicaConvergesRow.kinds == (if replicaConvergesRow.domain.isEmpty then [] else Tryz.f3.params.toList.map λ t=>match Tryz.prog.underlying t with | some (.int k)=>some k | _=>none)))=true:=by kernel_rfl
theorem c29:((replicaConvergesRow.pinned == replicaConvergesRow.pinnedBy))=true:=by kernel_rfl
theorem c30:((replicaConvergesRow.veiled == (Tryz.f3.params.toList++replicaConvergesSpec.plain.varTypes Tryz.prog++Tryz.f3.resultTypes.toList).any (Tryz.prog.veiledRec ·)))=true:=by kernel_rfl
theorem c31:(replicaConvergesRow.veiledFits Tryz.prog Tryz.f3.params.toList (Tryz.f3.params.toList++replicaConvergesSpec.plain.varTypes Tryz.prog++Tryz.f3.resultTypes.toList))=true:=by kernel_rfl
theorem named:Tryz.prog.funcNamed "kenning/kenninglaw25.ReplicaConverges" = some 3:=by kernel_rfl
theorem goes:false=replicaConvergesRow.goesBy Tryz.prog:=by kernel_rfl
theorem looks:true=Tryz.prog.looks []:=by kernel_rfl
theorem wfT:replicaConvergesRow.wfByText (OpenSpec.ofChange replicaConvergesSpec)=true:=by kernel_rfl
set_option maxRecDepth 100000 in
theorem closed:joinedFacts Tryz.prog 3 Tryz.f3 replicaConvergesSpec replicaConvergesRow=true:=zcR c0 Xc c2 c3 c4 c5 c6 c7 c8 c9 c10 c11 c12 c13 c14 c15 c16 c17 c18 c19 c20 c21 c22 c23 c24 zmu (by rw [zjY];kernel_rfl) (by rw [zj0];kernel_rfl) c28 c29 c30 c31
theorem row:Rows.ReplicaConvergesSaid:=
 OpenClaim.holds_of_wide 3 Tryz.f3 rfl rfl rfl rfl rfl rfl rfl ⟨rfl,rfl,rfl,rfl,rfl⟩ rfl rfl rfl rfl rfl named Tryz.func3 closed
  (of_decide_eq_true (by kernel_rfl)) (by unfold Func.isWrapper;first | (rw [if_pos (by decide +kernel)];kernel_rfl) | (rw [if_neg (by decide +kernel)];exact⟨rfl,rfl⟩))
  (λ os started H enc _=>lifted os started H enc)
set_option maxRecDepth 100000 in
theorem proved:Rows.ReplicaConvergesCardSaid:=
 Claim7.holds_tied_plain_at .later [] [.handle] true (true,"d223efeb1d2c9855de1f44617bf8539ed0bd9834076af6539c8394327e0e52b1") true
  row (λ _ h=>by cases h) wfT (λ _ h=>by cases h) replicaConverges_row_tie rfl ⟨rfl,rfl⟩ zjZ rfl
  (λ f fn hf hfn=>by
    obtain rfl:f = 3:=Option.some.inj (named.symm.trans hf) |>.symm
    obtain rfl:fn=Tryz.f3:=(Option.some.inj (Tryz.func3.symm.trans hfn)).symm
    exact⟨looks,fun j t ht=>by
     rw [Tryz.params3] at ht
     have ht3:t = 22 \/ t = 24:=by
      rcases j with _ | _ | j
      ·simp at ht;simp [<-ht]
      ·simp at ht;simp [<-ht]
      ·simp at ht
     rcases ht3 with rfl | rfl
     ·exact(show Tryz.prog.wantsStandIn 22 = false by kernel_rfl)
     ·exact(show Tryz.prog.wantsStandIn 24 = false by kernel_rfl)
     ⟩)
  goes
#print axioms proved
end Go.Proofs.YtmpnbdhadjfbhaaGreatDoor.replicaConvergesDone
