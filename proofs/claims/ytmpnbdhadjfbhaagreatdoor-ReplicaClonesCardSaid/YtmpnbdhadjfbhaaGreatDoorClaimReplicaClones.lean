import Derived.Test.YtmpnbdhadjfbhaaGreatDoorB28
import Derived.Test.YtmpnbdhadjfbhaaGreatDoorCards
import Derived.Test.YtmpnbdhadjfbhaaGreatDoorTie
import Derived.SevenTiedAt
import Derived.WalkKit
import Derived.ProofKit
import Derived.OpenShut
import Derived.ShutString
import Derived.ChangeOld
import Derived.Below
set_option linter.unusedVariables false
set_option linter.unusedSimpArgs false
open Go.Proofs.YtmpnbdhadjfbhaaGreatDoor.Rows
namespace Go.Proofs.YtmpnbdhadjfbhaaGreatDoor.replicaClonesDone
open Go.ChangeShapes Go.WideShapes Go.ChangeAt Go.RowKit
set_option maxRecDepth 100000 in
theorem lifted (os:Os) (started:os.Started) (H:Type) (enc:TypeId × Value->H) :
 ReturnsInHanded {} Tryz.checked os 4 .any (λ w args=>(replicaClonesSpec.pre enc Tryz.prog Tryz.f4 [] false w args/\laidMetH Tryz.prog replicaClonesRow.laid w)/\sizedMet enc Tryz.prog Tryz.f4 (OpenSpec.ofChange replicaClonesSpec) false w args) (replicaClonesSpec.post enc Tryz.prog Tryz.f4 false true false false):=by
 refine returnsInHanded_of_change_and (C:=Tryz.checked) (X:=fun w _=>laidMetH Tryz.prog replicaClonesRow.laid w) (λ _ _ _ hh h=>h.of_heap hh) own started (by kernel_rfl) Tryz.func4
  (ChangeSpec.witness_at (enc:=enc) (C:=Tryz.checked) (os:=os) (X:=fun w _=>laidMetH Tryz.prog replicaClonesRow.laid w) false (Yx os) #[.slice none 0 0,.int .u64 0,.string ⟨#[]⟩] 8 rfl (by kernel_rfl) (by kernel_rfl) (by kernel_rfl) (by kernel_rfl) (by kernel_rfl) (Q3 os _)) ?_
 intro W base args ds gs before hval0 hW hcnd _ hL _
 have hval:∀(j:Nat) t v,Tryz.f4.params[j]? = some t->args[j]? = some v->Value.okWide Tryz.prog W .any base t v:=hval0
 have hW':=hW
 obtain⟨p,q,hA0,hV,rfl,hfz,hnd⟩:=hW
 have hA:DataW.TrodAll enc Tryz.prog W 0 (λ _=>true) true Tryz.f4.params.toList args.toList ds p:=hA0
 rw [Tryz.params4] at hA hval
 obtain⟨v0,vs0,d0,ds0,p0,q0,hargs,rfl,rfl,h0,r0⟩:=trodAll_cons hA
 obtain⟨v1,vs1,d1,ds1,p1,q1,rfl,rfl,rfl,h1,r1⟩:=trodAll_cons r0
 obtain⟨v2,vs2,d2,ds2,p2,q2,rfl,rfl,rfl,h2,r2⟩:=trodAll_cons r1
 obtain⟨rfl,rfl,rfl⟩:=trodAll_nil r2
 obtain rfl:args=#[v0,v1,v2]:=by cases args;simp_all
 obtain⟨rfl,rfl⟩:=trodVars_none hV
 have lt0:∀ x ∈ p0,x.block<W.heap.size:=by obtain⟨m,hm⟩:=h0;exact DataW.trod_lt m _ _ _ hm
 have lt1:∀ x ∈ p1,x.block<W.heap.size:=by obtain⟨m,hm⟩:=h1;exact DataW.trod_lt m _ _ _ hm
 have lt2:∀ x ∈ p2,x.block<W.heap.size:=by obtain⟨m,hm⟩:=h2;exact DataW.trod_lt m _ _ _ hm
 obtain⟨x0,e0,g0⟩:=zwo (hval 0 22 v0 rfl rfl) h0
 obtain⟨x1,e1,g1⟩:=zsp (hval 1 36 v1 rfl rfl) h1
 obtain⟨x2,e2,g2⟩:=zxI (hval 2 9 v2 rfl rfl) h2
 clear hA0 hval0
 refine(zeZ (l:=[v0,v1,v2]) (zww x0 x1 x2 g0 g1 g2) (JH hL) ⟨e0,e1,e2,trivial⟩).mono λ e W' ⟨he,bel⟩=>?_
 subst he
 exact⟨_,rfl,_,_,_,[],_,[],hW',trodAll_mk1 (shut_bool Tryz.underlying4 _),(trodAll_cons_mk (Below.trod Xc (by kernel_rfl) (of_decide_eq_true (by kernel_rfl)) h0 bel lt0) (trodAll_cons_mk (Below.trod Xc (by kernel_rfl) (of_decide_eq_true (by kernel_rfl)) h1 bel lt1) (trodAll_cons_mk (Below.trod Xc (by kernel_rfl) (of_decide_eq_true (by kernel_rfl)) h2 bel lt2) trodAll_mk0))),rfl,bel.frame _,fun h=>by cases h⟩
theorem c0:(replicaClonesRow.wf (OpenSpec.ofChange replicaClonesSpec))=true:=by kernel_rfl
theorem c2:(mapsRowed Tryz.prog)=true:=by kernel_rfl
theorem c3:(Tryz.f4.params.all (Tryz.prog.readableRec ·))=true:=by kernel_rfl
theorem c4:(namedTie Tryz.prog replicaClonesRow.named replicaClonesSpec.vars)=true:=by kernel_rfl
theorem c5:((replicaClonesRow.stops == []))=true:=by kernel_rfl
theorem c6:((Tryz.prog.stops == []))=true:=by kernel_rfl
theorem c7:((replicaClonesRow.knobs == []))=true:=by kernel_rfl
theorem c8:((Tryz.prog.stopKnobs == []))=true:=by kernel_rfl
theorem c9:((replicaClonesRow.inPlace == Tryz.prog.inPlace 4))=true:=by kernel_rfl
theorem c10:((replicaClonesRow.unfollowed == Tryz.prog.unfollowed 4))=true:=by kernel_rfl
theorem c11:((replicaClonesRow.recurses == Tryz.prog.recurses 4))=true:=by kernel_rfl
theorem c12:((replicaClonesRow.named == Tryz.prog.varsNamed 4))=true:=by kernel_rfl
theorem c13:((replicaClonesRow.maps == (Tryz.f4.params.toList++replicaClonesSpec.plain.varTypes Tryz.prog).any (Tryz.prog.mapsRec ·)))=true:=by kernel_rfl
theorem c14:((replicaClonesRow.ifaces == (Tryz.f4.params.toList++replicaClonesSpec.plain.varTypes Tryz.prog).any (Tryz.prog.ifacesRec ·)))=true:=by kernel_rfl
theorem c15:((replicaClonesRow.mapsOut == Tryz.prog.mapsAmong Tryz.f4.resultTypes.toList))=true:=by kernel_rfl
theorem c16:((replicaClonesRow.loops == (Tryz.f4.params.toList++replicaClonesSpec.plain.varTypes Tryz.prog).any (Tryz.prog.loopsFrom ·)))=true:=by kernel_rfl
theorem c17:((replicaClonesRow.wideKeys == (Tryz.f4.params.toList++replicaClonesSpec.plain.varTypes Tryz.prog++Tryz.f4.resultTypes.toList).any (Tryz.prog.wideKeysFrom ·)))=true:=by kernel_rfl
theorem c18:(replicaClonesSpec.vars.all (Tryz.prog.varReadable ·))=true:=by kernel_rfl
theorem c19:(Tryz.f4.resultTypes.all (λ t=>Tryz.prog.readableRec t && decide (t < Tryz.prog.types.size)))=true:=by kernel_rfl
theorem c20:((replicaClonesRow.ifacesOut == Tryz.f4.resultTypes.toList.any (Tryz.prog.ifacesRec ·)))=true:=by kernel_rfl
theorem c21:((replicaClonesRow.loopsOut == Tryz.f4.resultTypes.toList.any (Tryz.prog.loopsFrom ·)))=true:=by kernel_rfl
theorem c22:((replicaClonesRow.plainKeys == Tryz.prog.plainKeys))=true:=by kernel_rfl
theorem c23:(replicaClonesRow.shortTexts.isNone)=true:=by kernel_rfl
theorem c24:(Tryz.prog.stopsHeard)=true:=by kernel_rfl
theorem c28:((replicaClonesRow.kinds == (if replicaClonesRow.domain.isEmpty then [] else Tryz.f4.params.toList.map λ t=>match Tryz.prog.underlying t with | some (.int k)=>some k | _=>none)))=true:=by kernel_rfl
theorem c29:((replicaClonesRow.pinned == replicaClonesRow.pinnedBy))=true:=by kernel_rfl
theorem c30:((replicaClonesRow.veiled == (Tryz.f4.params.toList++replicaClonesSpec.plain.varTypes Tryz.prog++Tryz.f4.resultTypes.toList).any (Tryz.prog.veiledRec ·)))=true:=by kernel_rfl
theorem c31:(replicaClonesRow.veiledFits Tryz.prog Tryz.f4.params.toList (Tryz.f4.params.toList++replicaClonesSpec.plain.varTypes Tryz.prog++Tryz.f4.resultTypes.toList))=true:=by kernel_rfl
theorem named:Tryz.prog.funcNamed "kenning/kenninglaw25.ReplicaClones" = some 4:=by kernel_rfl
theorem goes:false=replicaClonesRow.goesBy Tryz.prog:=by kernel_rfl
theorem looks:true=Tryz.prog.looks []:=by kernel_rfl
theorem wfT:replicaClonesRow.wfByText (OpenSpec.ofChange replicaClonesSpec)=true:=by kernel_rfl
set_option maxRecDepth 100000 in
theorem closed:joinedFacts Tryz.prog 4 Tryz.f4 replicaClonesSpec replicaClonesRow=true:=zcR c0 Xc c2 c3 c4 c5 c6 c7 c8 c9 c10 c11 c12 c13 c14 c15 c16 c17 c18 c19 c20 c21 c22 c23 c24 zmu (by rw [zjY];kernel_rfl) (by rw [zj0];kernel_rfl) c28 c29 c30 c31
theorem row:Rows.ReplicaClonesSaid:=
 OpenClaim.holds_of_wide 4 Tryz.f4 rfl rfl rfl rfl rfl rfl rfl ⟨rfl,rfl,rfl,rfl,rfl⟩ rfl rfl rfl rfl rfl named Tryz.func4 closed
  (of_decide_eq_true (by kernel_rfl)) (by unfold Func.isWrapper;first | (rw [if_pos (by decide +kernel)];kernel_rfl) | (rw [if_neg (by decide +kernel)];exact⟨rfl,rfl⟩))
  (λ os started H enc _=>lifted os started H enc)
set_option maxRecDepth 100000 in
theorem proved:Rows.ReplicaClonesCardSaid:=
 Claim7.holds_tied_plain_at .later [] [.handle] true (true,"d223efeb1d2c9855de1f44617bf8539ed0bd9834076af6539c8394327e0e52b1") true
  row (λ _ h=>by cases h) wfT (λ _ h=>by cases h) replicaClones_row_tie rfl ⟨rfl,rfl⟩ zjZ rfl
  (λ f fn hf hfn=>by
    obtain rfl:f = 4:=Option.some.inj (named.symm.trans hf) |>.symm
    obtain rfl:fn=Tryz.f4:=(Option.some.inj (Tryz.func4.symm.trans hfn)).symm
    exact⟨looks,fun j t ht=>by
     rw [Tryz.params4] at ht
     have ht3:t = 22 \/ t = 36 \/ t = 9:=by
      rcases j with _ | _ | _ | j
      ·simp at ht;simp [<-ht]
      ·simp at ht;simp [<-ht]
      ·simp at ht;simp [<-ht]
      ·simp at ht
     rcases ht3 with rfl | rfl | rfl
     ·exact(show Tryz.prog.wantsStandIn 22 = false by kernel_rfl)
     ·exact(show Tryz.prog.wantsStandIn 36 = false by kernel_rfl)
     ·exact(show Tryz.prog.wantsStandIn 9 = false by kernel_rfl)
     ⟩)
  goes
#print axioms proved
end Go.Proofs.YtmpnbdhadjfbhaaGreatDoor.replicaClonesDone
