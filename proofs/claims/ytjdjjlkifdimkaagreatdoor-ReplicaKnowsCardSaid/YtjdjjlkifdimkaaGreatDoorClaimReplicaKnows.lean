import Derived.Test.YtjdjjlkifdimkaaGreatDoorB26
import Derived.Test.YtjdjjlkifdimkaaGreatDoorCards
import Derived.Test.YtjdjjlkifdimkaaGreatDoorTie
import Derived.SevenTiedAt
import Derived.WalkKit
import Derived.ProofKit
import Derived.OpenShut
import Derived.ShutString
import Derived.ChangeOld
import Derived.Below
set_option linter.unusedVariables false
set_option linter.unusedSimpArgs false
open Go.Proofs.YtjdjjlkifdimkaaGreatDoor.Rows
namespace Go.Proofs.YtjdjjlkifdimkaaGreatDoor.replicaKnowsDone
open Go.ChangeShapes Go.WideShapes Go.ChangeAt Go.RowKit
set_option maxRecDepth 100000 in
theorem lifted (os:Os) (started:os.Started) (H:Type) (enc:TypeId × Value->H) :
 ReturnsInHanded {} Tryz.checked os 4 .any (λ w args=>(replicaKnowsSpec.pre enc Tryz.prog Tryz.f4 [] false w args/\laidMetH Tryz.prog replicaKnowsRow.laid w)/\sizedMet enc Tryz.prog Tryz.f4 (OpenSpec.ofChange replicaKnowsSpec) false w args) (replicaKnowsSpec.post enc Tryz.prog Tryz.f4 false true false false):=by
 refine returnsInHanded_of_change_and (C:=Tryz.checked) (X:=fun w _=>laidMetH Tryz.prog replicaKnowsRow.laid w) (λ _ _ _ hh h=>h.of_heap hh) own started (by kernel_rfl) Tryz.func4
  (ChangeSpec.witness_at (enc:=enc) (C:=Tryz.checked) (os:=os) (X:=fun w _=>laidMetH Tryz.prog replicaKnowsRow.laid w) false (zpC os) #[.slice none 0 0,.agg #[.int .u64 0,.int .u64 0,.int .u64 0]] 8 rfl (by kernel_rfl) (by kernel_rfl) (by kernel_rfl) (by kernel_rfl) (by kernel_rfl) (zpD os _)) ?_
 intro W base args ds gs before hval0 hW hcnd _ hL _
 have hval:∀(j:Nat) t v,Tryz.f4.params[j]? = some t->args[j]? = some v->Value.okWide Tryz.prog W .any base t v:=hval0
 have hW':=hW
 obtain⟨p,q,hA0,hV,rfl,hfz,hnd⟩:=hW
 have hA:DataW.TrodAll enc Tryz.prog W 0 (λ _=>true) true Tryz.f4.params.toList args.toList ds p:=hA0
 rw [Tryz.params4] at hA hval
 obtain⟨v0,vs0,d0,ds0,p0,q0,hargs,rfl,rfl,h0,r0⟩:=trodAll_cons hA
 obtain⟨v1,vs1,d1,ds1,p1,q1,rfl,rfl,rfl,h1,r1⟩:=trodAll_cons r0
 obtain⟨rfl,rfl,rfl⟩:=trodAll_nil r1
 obtain rfl:args=#[v0,v1]:=by cases args;simp_all
 obtain⟨rfl,rfl⟩:=trodVars_none hV
 have lt0:∀ x ∈ p0,x.block<W.heap.size:=by obtain⟨m,hm⟩:=h0;exact DataW.trod_lt m _ _ _ hm
 have lt1:∀ x ∈ p1,x.block<W.heap.size:=by obtain⟨m,hm⟩:=h1;exact DataW.trod_lt m _ _ _ hm
 obtain⟨x0,e0,g0⟩:=zwo (hval 0 22 v0 rfl rfl) h0
 obtain⟨x1,e1,g1⟩:=zob (hval 1 60 v1 rfl rfl) h1
 clear hA0 hval0
 refine(zeZ (l:=[v0,v1]) (zwp x0 x1 g0 g1) (zpI hL) ⟨e0,e1,trivial⟩).mono λ e W' ⟨he,bel⟩=>?_
 subst he
 exact⟨_,rfl,_,_,_,[],_,[],hW',trodAll_mk1 (shut_bool Tryz.underlying4 _),(trodAll_cons_mk (Below.trod Xc (by kernel_rfl) (of_decide_eq_true (by kernel_rfl)) h0 bel lt0) (trodAll_cons_mk (Below.trod Xc (by kernel_rfl) (of_decide_eq_true (by kernel_rfl)) h1 bel lt1) trodAll_mk0)),rfl,bel.frame _,fun h=>by cases h⟩
theorem c0:(replicaKnowsRow.wf (OpenSpec.ofChange replicaKnowsSpec))=true:=by kernel_rfl
theorem c2:(mapsRowed Tryz.prog)=true:=by kernel_rfl
theorem c3:(Tryz.f4.params.all (Tryz.prog.readableRec ·))=true:=by kernel_rfl
theorem c4:(namedTie Tryz.prog replicaKnowsRow.named replicaKnowsSpec.vars)=true:=by kernel_rfl
theorem c5:((replicaKnowsRow.stops == []))=true:=by kernel_rfl
theorem c6:((Tryz.prog.stops == []))=true:=by kernel_rfl
theorem c7:((replicaKnowsRow.knobs == []))=true:=by kernel_rfl
theorem c8:((Tryz.prog.stopKnobs == []))=true:=by kernel_rfl
theorem c9:((replicaKnowsRow.inPlace == Tryz.prog.inPlace 4))=true:=by kernel_rfl
theorem c10:((replicaKnowsRow.unfollowed == Tryz.prog.unfollowed 4))=true:=by kernel_rfl
theorem c11:((replicaKnowsRow.recurses == Tryz.prog.recurses 4))=true:=by kernel_rfl
theorem c12:((replicaKnowsRow.named == Tryz.prog.varsNamed 4))=true:=by kernel_rfl
theorem c13:((replicaKnowsRow.maps == (Tryz.f4.params.toList++replicaKnowsSpec.plain.varTypes Tryz.prog).any (Tryz.prog.mapsRec ·)))=true:=by kernel_rfl
theorem c14:((replicaKnowsRow.ifaces == (Tryz.f4.params.toList++replicaKnowsSpec.plain.varTypes Tryz.prog).any (Tryz.prog.ifacesRec ·)))=true:=by kernel_rfl
theorem c15:((replicaKnowsRow.mapsOut == Tryz.prog.mapsAmong Tryz.f4.resultTypes.toList))=true:=by kernel_rfl
theorem c16:((replicaKnowsRow.loops == (Tryz.f4.params.toList++replicaKnowsSpec.plain.varTypes Tryz.prog).any (Tryz.prog.loopsFrom ·)))=true:=by kernel_rfl
theorem c17:((replicaKnowsRow.wideKeys == (Tryz.f4.params.toList++replicaKnowsSpec.plain.varTypes Tryz.prog++Tryz.f4.resultTypes.toList).any (Tryz.prog.wideKeysFrom ·)))=true:=by kernel_rfl
theorem c18:(replicaKnowsSpec.vars.all (Tryz.prog.varReadable ·))=true:=by kernel_rfl
theorem c19:(Tryz.f4.resultTypes.all (λ t=>Tryz.prog.readableRec t && decide (t < Tryz.prog.types.size)))=true:=by kernel_rfl
theorem c20:((replicaKnowsRow.ifacesOut == Tryz.f4.resultTypes.toList.any (Tryz.prog.ifacesRec ·)))=true:=by kernel_rfl
theorem c21:((replicaKnowsRow.loopsOut == Tryz.f4.resultTypes.toList.any (Tryz.prog.loopsFrom ·)))=true:=by kernel_rfl
theorem c22:((replicaKnowsRow.plainKeys == Tryz.prog.plainKeys))=true:=by kernel_rfl
theorem c23:(replicaKnowsRow.shortTexts.isNone)=true:=by kernel_rfl
theorem c24:(Tryz.prog.stopsHeard)=true:=by kernel_rfl
theorem c28:((replicaKnowsRow.kinds == (if replicaKnowsRow.domain.isEmpty then [] else Tryz.f4.params.toList.map λ t=>match Tryz.prog.underlying t with | some (.int k)=>some k | _=>none)))=true:=by kernel_rfl
theorem c29:((replicaKnowsRow.pinned == replicaKnowsRow.pinnedBy))=true:=by kernel_rfl
theorem c30:((replicaKnowsRow.veiled == (Tryz.f4.params.toList++replicaKnowsSpec.plain.varTypes Tryz.prog++Tryz.f4.resultTypes.toList).any (Tryz.prog.veiledRec ·)))=true:=by kernel_rfl
theorem c31:(replicaKnowsRow.veiledFits Tryz.prog Tryz.f4.params.toList (Tryz.f4.params.toList++replicaKnowsSpec.plain.varTypes Tryz.prog++Tryz.f4.resultTypes.toList))=true:=by kernel_rfl
theorem named:Tryz.prog.funcNamed "kenning/kenninglaw25.ReplicaKnows" = some 4:=by kernel_rfl
theorem goes:false=replicaKnowsRow.goesBy Tryz.prog:=by kernel_rfl
theorem looks:true=Tryz.prog.looks []:=by kernel_rfl
theorem wfT:replicaKnowsRow.wfByText (OpenSpec.ofChange replicaKnowsSpec)=true:=by kernel_rfl
set_option maxRecDepth 100000 in
theorem closed:joinedFacts Tryz.prog 4 Tryz.f4 replicaKnowsSpec replicaKnowsRow=true:=zcR c0 Xc c2 c3 c4 c5 c6 c7 c8 c9 c10 c11 c12 c13 c14 c15 c16 c17 c18 c19 c20 c21 c22 c23 c24 zmu (by rw [zjY];kernel_rfl) (by rw [zj0];kernel_rfl) c28 c29 c30 c31
theorem row:Rows.ReplicaKnowsSaid:=
 OpenClaim.holds_of_wide 4 Tryz.f4 rfl rfl rfl rfl rfl rfl rfl ⟨rfl,rfl,rfl,rfl,rfl⟩ rfl rfl rfl rfl rfl named Tryz.func4 closed
  (of_decide_eq_true (by kernel_rfl)) (by unfold Func.isWrapper;first | (rw [if_pos (by decide +kernel)];kernel_rfl) | (rw [if_neg (by decide +kernel)];exact⟨rfl,rfl⟩))
  (λ os started H enc _=>lifted os started H enc)
set_option maxRecDepth 100000 in
theorem proved:Rows.ReplicaKnowsCardSaid:=
 Claim7.holds_tied_plain_at .later [] [.handle,.data] true (true,"5c7fb562887f983fd7d48ea7b277cb899f96af25a3c7538ebf4a09872248ad74") true
  row (λ _ h=>by cases h) wfT (λ _ h=>by cases h) replicaKnows_row_tie rfl ⟨rfl,rfl⟩ zjZ rfl
  (λ f fn hf hfn=>by
    obtain rfl:f = 4:=Option.some.inj (named.symm.trans hf) |>.symm
    obtain rfl:fn=Tryz.f4:=(Option.some.inj (Tryz.func4.symm.trans hfn)).symm
    exact⟨looks,fun j t ht=>by
     rw [Tryz.params4] at ht
     have ht3:t = 22 \/ t = 60:=by
      rcases j with _ | _ | j
      ·simp at ht;simp [<-ht]
      ·simp at ht;simp [<-ht]
      ·simp at ht
     rcases ht3 with rfl | rfl
     ·exact(show Tryz.prog.wantsStandIn 22 = false by kernel_rfl)
     ·exact(show Tryz.prog.wantsStandIn 60 = false by kernel_rfl)
     ⟩)
  goes
#print axioms proved
end Go.Proofs.YtjdjjlkifdimkaaGreatDoor.replicaKnowsDone
