import Derived.Test.YtllbegidbdiokaaGreatDoorB28
import Derived.Test.YtllbegidbdiokaaGreatDoorCards
import Derived.Test.YtllbegidbdiokaaGreatDoorTie
import Derived.SevenTiedAt
import Derived.WalkKit
import Derived.ProofKit
import Derived.OpenShut
import Derived.ShutString
import Derived.ChangeOld
import Derived.Below
set_option linter.unusedVariables false
set_option linter.unusedSimpArgs false
namespace Go.Proofs.YtllbegidbdiokaaGreatDoor.replicaPlaysDone
open Go.ChangeShapes Go.WideShapes Go.ChangeAt Go.RowKit
set_option maxRecDepth 100000 in
theorem lifted (os:Os) (started:os.Started) (H:Type) (enc:TypeId × Value->H) :
 ReturnsInHanded {} Tryz.checked os 5 .any (fun w args=>(Rows.replicaPlaysSpec.pre enc Tryz.prog Tryz.f5 [] false w args/\laidMetH Tryz.prog Rows.replicaPlaysRow.laid w)/\sizedMet enc Tryz.prog Tryz.f5 (OpenSpec.ofChange Rows.replicaPlaysSpec) false w args) (Rows.replicaPlaysSpec.post enc Tryz.prog Tryz.f5 false true false false):=by
 refine returnsInHanded_of_change_and (C:=Tryz.checked) (X:=fun w _=>laidMetH Tryz.prog Rows.replicaPlaysRow.laid w) (fun _ _ _ hh h=>h.of_heap hh) own started (by kernel_rfl) Tryz.func5
  (ChangeSpec.witness_at (enc:=enc) (C:=Tryz.checked) (os:=os) (X:=fun w _=>laidMetH Tryz.prog Rows.replicaPlaysRow.laid w) false (Yx os) #[.slice none 0 0] 8 rfl (by kernel_rfl) (by kernel_rfl) (by kernel_rfl) (by kernel_rfl) (by kernel_rfl) (Q3 os _)) ?_
 intro W base args ds gs before hval0 hW hcnd _ hL _
 have hval:∀(j:Nat) t v,Tryz.f5.params[j]? = some t->args[j]? = some v->Value.okWide Tryz.prog W .any base t v:=hval0
 have hW':=hW
 obtain⟨p,q,hA0,hV,rfl,hfz,hnd⟩:=hW
 have hA:DataW.TrodAll enc Tryz.prog W 0 (fun _=>true) true Tryz.f5.params.toList args.toList ds p:=hA0
 rw [Tryz.params5] at hA hval
 obtain⟨v0,vs0,d0,ds0,p0,q0,hargs,rfl,rfl,h0,r0⟩:=trodAll_cons hA
 obtain⟨rfl,rfl,rfl⟩:=trodAll_nil r0
 obtain rfl:args=#[v0]:=by cases args;simp_all
 obtain⟨rfl,rfl⟩:=trodVars_none hV
 have lt0:∀ x ∈ p0,x.block<W.heap.size:=by obtain⟨m,hm⟩:=h0;exact DataW.trod_lt m _ _ _ hm
 obtain⟨x0,e0,g0⟩:=zwo (hval 0 22 v0 rfl rfl) h0
 clear hA0 hval0
 refine(zeZ (l:=[v0]) (zvk x0 g0) (JH hL) ⟨e0,trivial⟩).mono fun e W' ⟨he,bel⟩=>?_
 subst he
 exact⟨_,rfl,_,_,_,[],_,[],hW',trodAll_mk1 (shut_bool Tryz.underlying4 _),(trodAll_cons_mk (Below.trod Xc (by kernel_rfl) (of_decide_eq_true (by kernel_rfl)) h0 bel lt0) trodAll_mk0),rfl,bel.frame _,fun h=>by cases h⟩
theorem c0:(Rows.replicaPlaysRow.wf (OpenSpec.ofChange Rows.replicaPlaysSpec))=true:=by kernel_rfl
theorem c2:(mapsRowed Tryz.prog)=true:=by kernel_rfl
theorem c3:(Tryz.f5.params.all (Tryz.prog.readableRec ·))=true:=by kernel_rfl
theorem c4:(namedTie Tryz.prog Rows.replicaPlaysRow.named Rows.replicaPlaysSpec.vars)=true:=by kernel_rfl
theorem c5:((Rows.replicaPlaysRow.stops == []))=true:=by kernel_rfl
theorem c6:((Tryz.prog.stops == []))=true:=by kernel_rfl
theorem c7:((Rows.replicaPlaysRow.knobs == []))=true:=by kernel_rfl
theorem c8:((Tryz.prog.stopKnobs == []))=true:=by kernel_rfl
theorem c9:((Rows.replicaPlaysRow.inPlace == Tryz.prog.inPlace 5))=true:=by kernel_rfl
theorem c10:((Rows.replicaPlaysRow.unfollowed == Tryz.prog.unfollowed 5))=true:=by kernel_rfl
theorem c11:((Rows.replicaPlaysRow.recurses == Tryz.prog.recurses 5))=true:=by kernel_rfl
theorem c12:((Rows.replicaPlaysRow.named == Tryz.prog.varsNamed 5))=true:=by kernel_rfl
theorem c13:((Rows.replicaPlaysRow.maps == (Tryz.f5.params.toList++Rows.replicaPlaysSpec.plain.varTypes Tryz.prog).any (Tryz.prog.mapsRec ·)))=true:=by kernel_rfl
theorem c14:((Rows.replicaPlaysRow.ifaces == (Tryz.f5.params.toList++Rows.replicaPlaysSpec.plain.varTypes Tryz.prog).any (Tryz.prog.ifacesRec ·)))=true:=by kernel_rfl
theorem c15:((Rows.replicaPlaysRow.mapsOut == Tryz.prog.mapsAmong Tryz.f5.resultTypes.toList))=true:=by kernel_rfl
theorem c16:((Rows.replicaPlaysRow.loops == (Tryz.f5.params.toList++Rows.replicaPlaysSpec.plain.varTypes Tryz.prog).any (Tryz.prog.loopsFrom ·)))=true:=by kernel_rfl
theorem c17:((Rows.replicaPlaysRow.wideKeys == (Tryz.f5.params.toList++Rows.replicaPlaysSpec.plain.varTypes Tryz.prog++Tryz.f5.resultTypes.toList).any (Tryz.prog.wideKeysFrom ·)))=true:=by kernel_rfl
theorem c18:(Rows.replicaPlaysSpec.vars.all (Tryz.prog.varReadable ·))=true:=by kernel_rfl
theorem c19:(Tryz.f5.resultTypes.all (fun t=>Tryz.prog.readableRec t && decide (t < Tryz.prog.types.size)))=true:=by kernel_rfl
theorem c20:((Rows.replicaPlaysRow.ifacesOut == Tryz.f5.resultTypes.toList.any (Tryz.prog.ifacesRec ·)))=true:=by kernel_rfl
theorem c21:((Rows.replicaPlaysRow.loopsOut == Tryz.f5.resultTypes.toList.any (Tryz.prog.loopsFrom ·)))=true:=by kernel_rfl
theorem c22:((Rows.replicaPlaysRow.plainKeys == Tryz.prog.plainKeys))=true:=by kernel_rfl
theorem c23:(Rows.replicaPlaysRow.shortTexts.isNone)=true:=by kernel_rfl
theorem c24:(Tryz.prog.stopsHeard)=true:=by kernel_rfl
theorem c28:((Rows.replicaPlaysRow.kinds == (if Rows.replicaPlaysRow.domain.isEmpty then [] else Tryz.f5.params.toList.map fun t=>match Tryz.prog.underlying t with | some (.int k)=>some k | _=>none)))=true:=by kernel_rfl
theorem c29:((Rows.replicaPlaysRow.pinned == Rows.replicaPlaysRow.pinnedBy))=true:=by kernel_rfl
theorem c30:((Rows.replicaPlaysRow.veiled == (Tryz.f5.params.toList++Rows.replicaPlaysSpec.plain.varTypes Tryz.prog++Tryz.f5.resultTypes.toList).any (Tryz.prog.veiledRec ·)))=true:=by kernel_rfl
theorem c31:(Rows.replicaPlaysRow.veiledFits Tryz.prog Tryz.f5.params.toList (Tryz.f5.params.toList++Rows.replicaPlaysSpec.plain.varTypes Tryz.prog++Tryz.f5.resultTypes.toList))=true:=by kernel_rfl
theorem named:Tryz.prog.funcNamed "kenning/kenninglaw25.ReplicaPlays" = some 5 := by kernel_rfl
theorem goes:false=Rows.replicaPlaysRow.goesBy Tryz.prog:=by kernel_rfl
theorem looks:true=Tryz.prog.looks []:=by kernel_rfl
theorem wfT:Rows.replicaPlaysRow.wfByText (OpenSpec.ofChange Rows.replicaPlaysSpec)=true:=by kernel_rfl
set_option maxRecDepth 100000 in
theorem closed:joinedFacts Tryz.prog 5 Tryz.f5 Rows.replicaPlaysSpec Rows.replicaPlaysRow=true:=zcR c0 Xc c2 c3 c4 c5 c6 c7 c8 c9 c10 c11 c12 c13 c14 c15 c16 c17 c18 c19 c20 c21 c22 c23 c24 zmu (by rw [zjY];kernel_rfl) (by rw [zj0];kernel_rfl) c28 c29 c30 c31
theorem row:Rows.ReplicaPlaysSaid:=
 OpenClaim.holds_of_wide 5 Tryz.f5 rfl rfl rfl rfl rfl rfl rfl ⟨rfl,rfl,rfl,rfl,rfl⟩ rfl rfl rfl rfl rfl named Tryz.func5 closed
  (of_decide_eq_true (by kernel_rfl)) (by unfold Func.isWrapper;first | (rw [if_pos (by decide +kernel)];kernel_rfl) | (rw [if_neg (by decide +kernel)];exact⟨rfl,rfl⟩))
  (fun os started H enc _=>lifted os started H enc)
set_option maxRecDepth 100000 in
theorem proved:Rows.ReplicaPlaysCardSaid:=
 Claim7.holds_tied_plain_at .later [] [.handle] true (true, "3988487781b4bda1377995ac1567d1dfcbcb635a4344cd0aeb07ac006386e753") true
  row (fun _ h=>by cases h) wfT (fun _ h=>by cases h) replicaPlays_row_tie rfl ⟨rfl,rfl⟩ zjZ rfl
  (fun f fn hf hfn=>by
    obtain rfl:f = 5 := Option.some.inj (named.symm.trans hf) |>.symm
    obtain rfl:fn=Tryz.f5 := (Option.some.inj (Tryz.func5.symm.trans hfn)).symm
    exact⟨looks,fun j t ht=>by
     rw [Tryz.params5] at ht
     have ht3:t = 22 := by
      rcases j with _ | j
      ·simp at ht;simp [<-ht]
      ·simp at ht
     rcases ht3 with rfl
     ·exact(show Tryz.prog.wantsStandIn 22 = false by kernel_rfl)
     ⟩)
  goes
#print axioms proved
end Go.Proofs.YtllbegidbdiokaaGreatDoor.replicaPlaysDone
