import Derived.Test.YtonhfknjcbakiaaGreatDoorRows
import Derived.ChangeSame
import Derived.ChangeVars
import Derived.JoinedOf
import Derived.RowKit
import Derived.RowKitTokens
import Derived.LaidLaws
import Derived.LaidHandle
import Derived.Stop.Joined
import Derived.Test.YtonhfknjcbakiaaGreatDoorB36
import Derived.Test.YtonhfknjcbakiaaGreatDoorB33
import Derived.Test.YtonhfknjcbakiaaGreatDoorB53
import Derived.Test.YtonhfknjcbakiaaGreatDoorCards
import Derived.Test.YtonhfknjcbakiaaGreatDoorTie
import Derived.SevenTiedAt
import Derived.WalkKit
import Derived.ProofKit
import Derived.OpenShut
import Derived.ShutString
import Derived.ChangeOld
import Derived.Below
set_option linter.unusedVariables false
set_option linter.unusedSimpArgs false
set_option maxRecDepth 100000
namespace Go.Proofs.YtonhfknjcbakiaaGreatDoor
open Go.ChangeShapes Go.WideShapes Go.RowKit
theorem own:ownKnob Tryz.prog.godebug=none:=by kernel_rfl
theorem Xc:laidOutB Tryz.prog=true:=by kernel_rfl
theorem et:Tryz.prog.globalNamed "errors.errorType" = some 0:=by kernel_rfl
theorem rt:(Tryz.prog.cutTypes.find? (·.1 == "internal/reflectlite.rtype")).map (·.2)=some 217 := by kernel_rfl
theorem ziq:((List.range 311).filter fun t=>Tryz.prog.rowNamed t [101,114,114,111,114])=[44]:=by kernel_rfl
theorem tsize:Tryz.prog.types.size=311:=by kernel_rfl
def zab {H:Type}:List (String × DataW H):=[("errors.errorType",Rows.laid_errors_errorType)]
theorem Z7 {W:World} (h:laidMetH Tryz.prog zab W):W.cell? ⟨0,0,none⟩=some (.iface 217 (.agg #[.pointer (some ⟨2,44,none⟩)])):=by
 have A:laidMet Tryz.prog [] W/\handlesMet Tryz.prog zab W:=h
 obtain⟨a,u,C,e1,e2,w,e4,e5⟩:=A.2 _ (List.mem_singleton.2 rfl)
 have y:a=[101,114,114,111,114]:=(Option.some.inj e1).symm
 subst y
 obtain rfl:=Option.some.inj (rt.symm.trans e2)
 have j:C ∈ (List.range 311).filter fun t=>Tryz.prog.rowNamed t [101,114,114,111,114]:=List.mem_filter.2 ⟨List.mem_range.2 (by rw [<-tsize];exact w),e4⟩
 rw [ziq] at j
 obtain rfl:=List.mem_singleton.1 j
 have B:typeHandle Tryz.prog 44 = .pointer (some ⟨2,44,none⟩):=by kernel_rfl
 rw [B] at e5
 simpa using World.var?_cell et e5 0
theorem JH {W:World} (h:laidMetH Tryz.prog zab W):GL (ZG W) W:=fun x j=>by
 have a:=Z7 h
 obtain rfl:_=x:=Option.some.inj j
 exact⟨World.block_lt_of_cell? W ⟨0,0,none⟩ a,a⟩
noncomputable def Yx (os:Os):World:=
 let w0:=World.holding Tryz.prog os ⟨#[],#[],[]⟩
 { w0 with heap:=w0.heap.modify 0 fun
  | .cells _ t frozen=>.cells #[.iface 217 (.agg #[.pointer (some ⟨2,44,none⟩)])] t frozen
  | o=>o }
theorem Q3 (os:Os) (a:Array Value):laidMetH Tryz.prog zab ((Yx os).forCall (fun _ _=>0) ⟨#[],a,[]⟩).memory:=
 laidMetH_of_parts (laidMet_nil _ _) (by kernel_rfl)
end Go.Proofs.YtonhfknjcbakiaaGreatDoor
set_option linter.unusedVariables false
set_option linter.unusedSimpArgs false
namespace Go.Proofs.YtonhfknjcbakiaaGreatDoor.knowInsertsDone
open Go.ChangeShapes Go.WideShapes Go.ChangeAt Go.RowKit
set_option maxRecDepth 100000 in
theorem lifted (os:Os) (started:os.Started) (H:Type) (enc:TypeId × Value->H) :
 ReturnsInHanded {} Tryz.checked os 7 .any (fun w args=>(Rows.knowInsertsSpec.pre enc Tryz.prog Tryz.f7 [] false w args/\laidMetH Tryz.prog Rows.knowInsertsRow.laid w)/\sizedMet enc Tryz.prog Tryz.f7 (OpenSpec.ofChange Rows.knowInsertsSpec) false w args) (Rows.knowInsertsSpec.post enc Tryz.prog Tryz.f7 false true false false):=by
 refine returnsInHanded_of_change_and (C:=Tryz.checked) (X:=fun w _=>laidMetH Tryz.prog Rows.knowInsertsRow.laid w) (fun _ _ _ hh h=>h.of_heap hh) own started (by kernel_rfl) Tryz.func7
  (ChangeSpec.witness_at (enc:=enc) (C:=Tryz.checked) (os:=os) (X:=fun w _=>laidMetH Tryz.prog Rows.knowInsertsRow.laid w) false (Yx os) #[.slice none 0 0,.agg #[.int .u64 0,.int .u64 0,.int .u64 0]] 8 rfl (by kernel_rfl) (by kernel_rfl) (by kernel_rfl) (by kernel_rfl) (by kernel_rfl) (Q3 os _)) ?_
 intro W base args ds gs before hval0 hW hcnd _ hL _
 have hval:∀(j:Nat) t v,Tryz.f7.params[j]? = some t->args[j]? = some v->Value.okWide Tryz.prog W .any base t v:=hval0
 have hW':=hW
 obtain⟨p,q,hA0,hV,rfl,hfz,hnd⟩:=hW
 have hA:DataW.TrodAll enc Tryz.prog W 0 (fun _=>true) true Tryz.f7.params.toList args.toList ds p:=hA0
 rw [Tryz.params7] at hA hval
 obtain⟨v0,vs0,d0,ds0,p0,q0,hargs,rfl,rfl,h0,r0⟩:=trodAll_cons hA
 obtain⟨v1,vs1,d1,ds1,p1,q1,rfl,rfl,rfl,h1,r1⟩:=trodAll_cons r0
 obtain⟨rfl,rfl,rfl⟩:=trodAll_nil r1
 obtain rfl:args=#[v0,v1]:=by cases args;simp_all
 obtain⟨rfl,rfl⟩:=trodVars_none hV
 have lt0:∀ x ∈ p0,x.block<W.heap.size:=by obtain⟨m,hm⟩:=h0;exact DataW.trod_lt m _ _ _ hm
 have lt1:∀ x ∈ p1,x.block<W.heap.size:=by obtain⟨m,hm⟩:=h1;exact DataW.trod_lt m _ _ _ hm
 obtain⟨x0,e0,g0⟩:=zg2 (hval 0 23 v0 rfl rfl) h0
 obtain⟨x1,e1,g1⟩:=zob (hval 1 54 v1 rfl rfl) h1
 clear hA0 hval0
 refine(zeZ (l:=[v0,v1]) (zre x0 x1 g0 g1) (JH hL) ⟨e0,e1,trivial⟩).mono fun e W' ⟨he,bel⟩=>?_
 subst he
 exact⟨_,rfl,_,_,_,[],_,[],hW',trodAll_mk1 (shut_bool Tryz.underlying4 _),(trodAll_cons_mk (Below.trod Xc (by kernel_rfl) (of_decide_eq_true (by kernel_rfl)) h0 bel lt0) (trodAll_cons_mk (Below.trod Xc (by kernel_rfl) (of_decide_eq_true (by kernel_rfl)) h1 bel lt1) trodAll_mk0)),rfl,bel.frame _,fun h=>by cases h⟩
theorem c0:(Rows.knowInsertsRow.wf (OpenSpec.ofChange Rows.knowInsertsSpec))=true:=by kernel_rfl
theorem c2:(mapsRowed Tryz.prog)=true:=by kernel_rfl
theorem c3:(Tryz.f7.params.all (Tryz.prog.readableRec ·))=true:=by kernel_rfl
theorem c4:(namedTie Tryz.prog Rows.knowInsertsRow.named Rows.knowInsertsSpec.vars)=true:=by kernel_rfl
theorem c5:((Rows.knowInsertsRow.stops == []))=true:=by kernel_rfl
theorem c6:((Tryz.prog.stops == []))=true:=by kernel_rfl
theorem c7:((Rows.knowInsertsRow.knobs == []))=true:=by kernel_rfl
theorem c8:((Tryz.prog.stopKnobs == []))=true:=by kernel_rfl
theorem c9:((Rows.knowInsertsRow.inPlace == Tryz.prog.inPlace 7))=true:=by kernel_rfl
theorem c10:((Rows.knowInsertsRow.unfollowed == Tryz.prog.unfollowed 7))=true:=by kernel_rfl
theorem c11:((Rows.knowInsertsRow.recurses == Tryz.prog.recurses 7))=true:=by kernel_rfl
theorem c12:((Rows.knowInsertsRow.named == Tryz.prog.varsNamed 7))=true:=by kernel_rfl
theorem c13:((Rows.knowInsertsRow.maps == (Tryz.f7.params.toList++Rows.knowInsertsSpec.plain.varTypes Tryz.prog).any (Tryz.prog.mapsRec ·)))=true:=by kernel_rfl
theorem c14:((Rows.knowInsertsRow.ifaces == (Tryz.f7.params.toList++Rows.knowInsertsSpec.plain.varTypes Tryz.prog).any (Tryz.prog.ifacesRec ·)))=true:=by kernel_rfl
theorem c15:((Rows.knowInsertsRow.mapsOut == Tryz.prog.mapsAmong Tryz.f7.resultTypes.toList))=true:=by kernel_rfl
theorem c16:((Rows.knowInsertsRow.loops == (Tryz.f7.params.toList++Rows.knowInsertsSpec.plain.varTypes Tryz.prog).any (Tryz.prog.loopsFrom ·)))=true:=by kernel_rfl
theorem c17:((Rows.knowInsertsRow.wideKeys == (Tryz.f7.params.toList++Rows.knowInsertsSpec.plain.varTypes Tryz.prog++Tryz.f7.resultTypes.toList).any (Tryz.prog.wideKeysFrom ·)))=true:=by kernel_rfl
theorem c18:(Rows.knowInsertsSpec.vars.all (Tryz.prog.varReadable ·))=true:=by kernel_rfl
theorem c19:(Tryz.f7.resultTypes.all (fun t=>Tryz.prog.readableRec t && decide (t < Tryz.prog.types.size)))=true:=by kernel_rfl
theorem c20:((Rows.knowInsertsRow.ifacesOut == Tryz.f7.resultTypes.toList.any (Tryz.prog.ifacesRec ·)))=true:=by kernel_rfl
theorem c21:((Rows.knowInsertsRow.loopsOut == Tryz.f7.resultTypes.toList.any (Tryz.prog.loopsFrom ·)))=true:=by kernel_rfl
theorem c22:((Rows.knowInsertsRow.plainKeys == Tryz.prog.plainKeys))=true:=by kernel_rfl
theorem c23:(Rows.knowInsertsRow.shortTexts.isNone)=true:=by kernel_rfl
theorem c24:(Tryz.prog.stopsHeard)=true:=by kernel_rfl
theorem c28:((Rows.knowInsertsRow.kinds == (if Rows.knowInsertsRow.domain.isEmpty then [] else Tryz.f7.params.toList.map fun t=>match Tryz.prog.underlying t with | some (.int k)=>some k | _=>none)))=true:=by kernel_rfl
theorem c29:((Rows.knowInsertsRow.pinned == Rows.knowInsertsRow.pinnedBy))=true:=by kernel_rfl
theorem c30:((Rows.knowInsertsRow.veiled == (Tryz.f7.params.toList++Rows.knowInsertsSpec.plain.varTypes Tryz.prog++Tryz.f7.resultTypes.toList).any (Tryz.prog.veiledRec ·)))=true:=by kernel_rfl
theorem c31:(Rows.knowInsertsRow.veiledFits Tryz.prog Tryz.f7.params.toList (Tryz.f7.params.toList++Rows.knowInsertsSpec.plain.varTypes Tryz.prog++Tryz.f7.resultTypes.toList))=true:=by kernel_rfl
theorem named:Tryz.prog.funcNamed "kenning/kenninglaw14.KnowInserts" = some 7 := by kernel_rfl
theorem goes:false=Rows.knowInsertsRow.goesBy Tryz.prog:=by kernel_rfl
theorem looks:true=Tryz.prog.looks []:=by kernel_rfl
theorem wfT:Rows.knowInsertsRow.wfByText (OpenSpec.ofChange Rows.knowInsertsSpec)=true:=by kernel_rfl
set_option maxRecDepth 100000 in
theorem closed:joinedFacts Tryz.prog 7 Tryz.f7 Rows.knowInsertsSpec Rows.knowInsertsRow=true:=zcR c0 Xc c2 c3 c4 c5 c6 c7 c8 c9 c10 c11 c12 c13 c14 c15 c16 c17 c18 c19 c20 c21 c22 c23 c24 zmu (by rw [zjY];kernel_rfl) (by rw [zj0];kernel_rfl) c28 c29 c30 c31
theorem row:Rows.KnowInsertsSaid:=
 OpenClaim.holds_of_wide 7 Tryz.f7 rfl rfl rfl rfl rfl rfl rfl ⟨rfl,rfl,rfl,rfl,rfl⟩ rfl rfl rfl rfl rfl named Tryz.func7 closed
  (of_decide_eq_true (by kernel_rfl)) (by unfold Func.isWrapper;first | (rw [if_pos (by decide +kernel)];kernel_rfl) | (rw [if_neg (by decide +kernel)];exact⟨rfl,rfl⟩))
  (fun os started H enc _=>lifted os started H enc)
set_option maxRecDepth 100000 in
theorem proved:Rows.KnowInsertsCardSaid:=
 Claim7.holds_tied_plain_at .later [] [.handle] true (true, "0c2a32dd10aa613ab11aeb917e382f6b1689d99cbab020f5564da442ddbb1877") true
  row (fun _ h=>by cases h) wfT (fun _ h=>by cases h) knowInserts_row_tie rfl ⟨rfl,rfl⟩ zjZ rfl
  (fun f fn hf hfn=>by
    obtain rfl:f = 7 := Option.some.inj (named.symm.trans hf) |>.symm
    obtain rfl:fn=Tryz.f7 := (Option.some.inj (Tryz.func7.symm.trans hfn)).symm
    exact⟨looks,fun j t ht=>by
     rw [Tryz.params7] at ht
     have ht3:t = 23 \/ t = 54 := by
      rcases j with _ | _ | j
      ·simp at ht;simp [<-ht]
      ·simp at ht;simp [<-ht]
      ·simp at ht
     rcases ht3 with rfl | rfl
     ·exact(show Tryz.prog.wantsStandIn 23 = false by kernel_rfl)
     ·exact(show Tryz.prog.wantsStandIn 54 = false by kernel_rfl)
     ⟩)
  goes
#print axioms proved
end Go.Proofs.YtonhfknjcbakiaaGreatDoor.knowInsertsDone
