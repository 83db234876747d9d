/-
  NARROWER THAN 'FOR EVERY INPUT', by the rows' own cells (each row's printed sentence says how): ScopeClones: laid · KnowAlgebra: laid · KnowParts: laid · OrderLeast: laid · KnowInserts: laid · OrderWitness: laid · KnowMatches: laid · KnowProjects: laid · KnowDenotes: laid · OrderRejects: laid.
  DERIVED. THE GIVEN ROWS OF THIS SEAT. 10 by the template 'for every input the law returns true; each argument reads behind the call as it read before'; 0 by the template 'total and deterministic' (their statements: YtonhfknjcbakiaaGreatDoorTotals.lean).
  GIVEN WITH THE SEED: the statements are not yours to turn. If you find one false, say at which input.
  Laid BY PROGRAM, IN A SANDBOX (cutbox-rows.mjs): the forced cells as the released guide's own fill.sh prints them over the translation 085567a20840c099… (all of the seat's roots in one cut). By AI agents, Wed Nov 11 2026. No macro, syntax, notation, axiom, sorry.
-/
import Derived.Test.YtonhfknjcbakiaaGreatDoorChecked
import GoSem.Claim
import GoSem.ClaimJoined
import GoSem.ClaimMapViews
import Derived.JoinedTies
import Derived.KernelRfl
namespace Go.Proofs.YtonhfknjcbakiaaGreatDoor
/- THE CELL 'sum', in the pinned program and in every row, IS THE sha256 OF THE DUMP (.gsa) THAT YtonhfknjcbakiaaGreatDoorProg.lean LOADS. Nothing in Lean hashes anything: it is a label: what it is worth is what the hold of that sum in a sandbox is worth. -/
noncomputable def Tryz.pinned : Pinned := { name := "ytonhfknjcbakiaagreatdoor", sum := "085567a20840c099cff3069c9addf1b77905610c5fe0badfdc73fb7d7b789216", checked := Tryz.checked }
namespace Rows
def none {H : Type} : Left H := { results := [], args := [] }

/- WHAT THE LISTED PACKAGE-LEVEL VARIABLES READ AS WHEN THE CALL BEGINS. Each datum BY PROGRAM (the guide's laid-datum.mjs) off the statement by which the dump's own 'gosem.cut.vars' lays the variable. In a bare row this is a premise. The card (YtonhfknjcbakiaaGreatDoorCards.lean) ties it to the program's text. -/
def laid_errors_errorType {H : Type} : DataW H := .iface "internal/reflectlite.rtype" (.agg [.ptr (.lit (.string [101, 114, 114, 111, 114]))])
def laid_kenning_canon_codes {H : Type} : DataW H := .agg [.lit (.int .i64 9), .lit (.int .i64 10), .lit (.int .i64 10), .lit (.int .i64 3)]

/-- 'kenninglaw11.ScopeClones': WHATEVER THE INPUT: true; the input reads as it did. -/
def scopeClonesSpec : ChangeSpec := { name := "scopeClones", fn := fun _ => fun
  | [d1, d2] => { results := [.lit (.bool true)], args := [d1, d2] }
  | _ => none }
def scopeClonesRow : OpenClaim := { program := "ytonhfknjcbakiaagreatdoor", sum := "085567a20840c099cff3069c9addf1b77905610c5fe0badfdc73fb7d7b789216", func := "kenning/kenninglaw11.ScopeClones", spec := "scopeClones", inPlace := ["internal/reflectlite.ValueOf", "(internal/reflectlite.Value).Type", "(internal/reflectlite.Value).IsNil", "internal/reflectlite.TypeOf", "(internal/reflectlite.Value).Elem", "(internal/reflectlite.Value).Set", "slices.overlaps[uint64]"], unfollowed := true, recurses := true, named := ["errors.errorType"], apart := false, laid := [("errors.errorType", laid_errors_errorType)] }
def ScopeClonesSaid : Prop := scopeClonesRow.holds Tryz.pinned (OpenSpec.ofChange scopeClonesSpec)

/-- ITS FALSE NEIGHBOUR: 'it returns false'. Refute it at one input. -/
def scopeClonesWrong : ChangeSpec := { name := "scopeClones", fn := fun _ => fun
  | [d1, d2] => { results := [.lit (.bool false)], args := [d1, d2] }
  | _ => none }
def ScopeClonesWrongFalsely : Prop := scopeClonesRow.holds Tryz.pinned (OpenSpec.ofChange scopeClonesWrong)

/-- 'kenninglaw14.KnowAlgebra': WHATEVER THE INPUT: true; the input reads as it did. -/
def knowAlgebraSpec : ChangeSpec := { name := "knowAlgebra", fn := fun _ => fun
  | [d1, d2, d3] => { results := [.lit (.bool true)], args := [d1, d2, d3] }
  | _ => none }
def knowAlgebraRow : OpenClaim := { program := "ytonhfknjcbakiaagreatdoor", sum := "085567a20840c099cff3069c9addf1b77905610c5fe0badfdc73fb7d7b789216", func := "kenning/kenninglaw14.KnowAlgebra", spec := "knowAlgebra", inPlace := ["slices.overlaps[uint64]", "internal/reflectlite.ValueOf", "(internal/reflectlite.Value).Type", "(internal/reflectlite.Value).IsNil", "internal/reflectlite.TypeOf", "(internal/reflectlite.Value).Elem", "(internal/reflectlite.Value).Set", "slices.overlaps[kenning/api.Fragment]"], unfollowed := true, recurses := true, named := ["errors.errorType"], apart := false, laid := [("errors.errorType", laid_errors_errorType)] }
def KnowAlgebraSaid : Prop := knowAlgebraRow.holds Tryz.pinned (OpenSpec.ofChange knowAlgebraSpec)

/-- ITS FALSE NEIGHBOUR: 'it returns false'. Refute it at one input. -/
def knowAlgebraWrong : ChangeSpec := { name := "knowAlgebra", fn := fun _ => fun
  | [d1, d2, d3] => { results := [.lit (.bool false)], args := [d1, d2, d3] }
  | _ => none }
def KnowAlgebraWrongFalsely : Prop := knowAlgebraRow.holds Tryz.pinned (OpenSpec.ofChange knowAlgebraWrong)

/-- 'kenninglaw14.KnowParts': WHATEVER THE INPUT: true; the input reads as it did. -/
def knowPartsSpec : ChangeSpec := { name := "knowParts", fn := fun _ => fun
  | [d1, d2, d3] => { results := [.lit (.bool true)], args := [d1, d2, d3] }
  | _ => none }
def knowPartsRow : OpenClaim := { program := "ytonhfknjcbakiaagreatdoor", sum := "085567a20840c099cff3069c9addf1b77905610c5fe0badfdc73fb7d7b789216", func := "kenning/kenninglaw14.KnowParts", spec := "knowParts", inPlace := ["slices.overlaps[uint64]", "internal/reflectlite.ValueOf", "(internal/reflectlite.Value).Type", "(internal/reflectlite.Value).IsNil", "internal/reflectlite.TypeOf", "(internal/reflectlite.Value).Elem", "(internal/reflectlite.Value).Set", "slices.overlaps[kenning/api.Fragment]"], unfollowed := true, recurses := true, named := ["errors.errorType"], apart := false, laid := [("errors.errorType", laid_errors_errorType)] }
def KnowPartsSaid : Prop := knowPartsRow.holds Tryz.pinned (OpenSpec.ofChange knowPartsSpec)

/-- ITS FALSE NEIGHBOUR: 'it returns false'. Refute it at one input. -/
def knowPartsWrong : ChangeSpec := { name := "knowParts", fn := fun _ => fun
  | [d1, d2, d3] => { results := [.lit (.bool false)], args := [d1, d2, d3] }
  | _ => none }
def KnowPartsWrongFalsely : Prop := knowPartsRow.holds Tryz.pinned (OpenSpec.ofChange knowPartsWrong)

/-- 'kenninglaw15.OrderLeast': WHATEVER THE INPUT: true; the input reads as it did. -/
def orderLeastSpec : ChangeSpec := { name := "orderLeast", fn := fun _ => fun
  | [d1, d2] => { results := [.lit (.bool true)], args := [d1, d2] }
  | _ => none }
def orderLeastRow : OpenClaim := { program := "ytonhfknjcbakiaagreatdoor", sum := "085567a20840c099cff3069c9addf1b77905610c5fe0badfdc73fb7d7b789216", func := "kenning/kenninglaw15.OrderLeast", spec := "orderLeast", inPlace := ["internal/reflectlite.ValueOf", "(internal/reflectlite.Value).Type", "(internal/reflectlite.Value).IsNil", "internal/reflectlite.TypeOf", "(internal/reflectlite.Value).Elem", "(internal/reflectlite.Value).Set", "slices.overlaps[uint64]", "slices.overlaps[kenning/api.Fragment]"], unfollowed := true, recurses := true, named := ["errors.errorType"], apart := false, laid := [("errors.errorType", laid_errors_errorType)] }
def OrderLeastSaid : Prop := orderLeastRow.holds Tryz.pinned (OpenSpec.ofChange orderLeastSpec)

/-- ITS FALSE NEIGHBOUR: 'it returns false'. Refute it at one input. -/
def orderLeastWrong : ChangeSpec := { name := "orderLeast", fn := fun _ => fun
  | [d1, d2] => { results := [.lit (.bool false)], args := [d1, d2] }
  | _ => none }
def OrderLeastWrongFalsely : Prop := orderLeastRow.holds Tryz.pinned (OpenSpec.ofChange orderLeastWrong)

/-- 'kenninglaw14.KnowInserts': WHATEVER THE INPUT: true; the input reads as it did. -/
def knowInsertsSpec : ChangeSpec := { name := "knowInserts", fn := fun _ => fun
  | [d1, d2] => { results := [.lit (.bool true)], args := [d1, d2] }
  | _ => none }
def knowInsertsRow : OpenClaim := { program := "ytonhfknjcbakiaagreatdoor", sum := "085567a20840c099cff3069c9addf1b77905610c5fe0badfdc73fb7d7b789216", func := "kenning/kenninglaw14.KnowInserts", spec := "knowInserts", inPlace := ["slices.overlaps[uint64]", "internal/reflectlite.ValueOf", "(internal/reflectlite.Value).Type", "(internal/reflectlite.Value).IsNil", "internal/reflectlite.TypeOf", "(internal/reflectlite.Value).Elem", "(internal/reflectlite.Value).Set", "slices.overlaps[kenning/api.Fragment]"], unfollowed := true, recurses := true, named := ["errors.errorType"], apart := false, laid := [("errors.errorType", laid_errors_errorType)] }
def KnowInsertsSaid : Prop := knowInsertsRow.holds Tryz.pinned (OpenSpec.ofChange knowInsertsSpec)

/-- ITS FALSE NEIGHBOUR: 'it returns false'. Refute it at one input. -/
def knowInsertsWrong : ChangeSpec := { name := "knowInserts", fn := fun _ => fun
  | [d1, d2] => { results := [.lit (.bool false)], args := [d1, d2] }
  | _ => none }
def KnowInsertsWrongFalsely : Prop := knowInsertsRow.holds Tryz.pinned (OpenSpec.ofChange knowInsertsWrong)

/-- 'kenninglaw15.OrderWitness': WHATEVER THE INPUT: true; the input reads as it did. -/
def orderWitnessSpec : ChangeSpec := { name := "orderWitness", fn := fun _ => fun
  | [d1, d2] => { results := [.lit (.bool true)], args := [d1, d2] }
  | _ => none }
def orderWitnessRow : OpenClaim := { program := "ytonhfknjcbakiaagreatdoor", sum := "085567a20840c099cff3069c9addf1b77905610c5fe0badfdc73fb7d7b789216", func := "kenning/kenninglaw15.OrderWitness", spec := "orderWitness", inPlace := ["internal/reflectlite.ValueOf", "(internal/reflectlite.Value).Type", "(internal/reflectlite.Value).IsNil", "internal/reflectlite.TypeOf", "(internal/reflectlite.Value).Elem", "(internal/reflectlite.Value).Set", "slices.overlaps[uint64]", "slices.overlaps[kenning/api.Fragment]"], unfollowed := true, recurses := true, named := ["errors.errorType"], apart := false, laid := [("errors.errorType", laid_errors_errorType)] }
def OrderWitnessSaid : Prop := orderWitnessRow.holds Tryz.pinned (OpenSpec.ofChange orderWitnessSpec)

/-- ITS FALSE NEIGHBOUR: 'it returns false'. Refute it at one input. -/
def orderWitnessWrong : ChangeSpec := { name := "orderWitness", fn := fun _ => fun
  | [d1, d2] => { results := [.lit (.bool false)], args := [d1, d2] }
  | _ => none }
def OrderWitnessWrongFalsely : Prop := orderWitnessRow.holds Tryz.pinned (OpenSpec.ofChange orderWitnessWrong)

/-- 'kenninglaw14.KnowMatches': WHATEVER THE INPUT: true; the input reads as it did. -/
def knowMatchesSpec : ChangeSpec := { name := "knowMatches", fn := fun _ => fun
  | [d1, d2] => { results := [.lit (.bool true)], args := [d1, d2] }
  | _ => none }
def knowMatchesRow : OpenClaim := { program := "ytonhfknjcbakiaagreatdoor", sum := "085567a20840c099cff3069c9addf1b77905610c5fe0badfdc73fb7d7b789216", func := "kenning/kenninglaw14.KnowMatches", spec := "knowMatches", inPlace := ["slices.overlaps[uint64]", "internal/reflectlite.ValueOf", "(internal/reflectlite.Value).Type", "(internal/reflectlite.Value).IsNil", "internal/reflectlite.TypeOf", "(internal/reflectlite.Value).Elem", "(internal/reflectlite.Value).Set", "slices.overlaps[kenning/api.Fragment]"], unfollowed := true, recurses := true, named := ["errors.errorType"], apart := false, laid := [("errors.errorType", laid_errors_errorType)] }
def KnowMatchesSaid : Prop := knowMatchesRow.holds Tryz.pinned (OpenSpec.ofChange knowMatchesSpec)

/-- ITS FALSE NEIGHBOUR: 'it returns false'. Refute it at one input. -/
def knowMatchesWrong : ChangeSpec := { name := "knowMatches", fn := fun _ => fun
  | [d1, d2] => { results := [.lit (.bool false)], args := [d1, d2] }
  | _ => none }
def KnowMatchesWrongFalsely : Prop := knowMatchesRow.holds Tryz.pinned (OpenSpec.ofChange knowMatchesWrong)

/-- 'kenninglaw14.KnowProjects': WHATEVER THE INPUT: true; the input reads as it did. -/
def knowProjectsSpec : ChangeSpec := { name := "knowProjects", fn := fun _ => fun
  | [d1, d2, d3] => { results := [.lit (.bool true)], args := [d1, d2, d3] }
  | _ => none }
def knowProjectsRow : OpenClaim := { program := "ytonhfknjcbakiaagreatdoor", sum := "085567a20840c099cff3069c9addf1b77905610c5fe0badfdc73fb7d7b789216", func := "kenning/kenninglaw14.KnowProjects", spec := "knowProjects", inPlace := ["slices.overlaps[uint64]", "internal/reflectlite.ValueOf", "(internal/reflectlite.Value).Type", "(internal/reflectlite.Value).IsNil", "internal/reflectlite.TypeOf", "(internal/reflectlite.Value).Elem", "(internal/reflectlite.Value).Set", "slices.overlaps[kenning/api.Fragment]"], unfollowed := true, recurses := true, named := ["errors.errorType"], apart := false, laid := [("errors.errorType", laid_errors_errorType)] }
def KnowProjectsSaid : Prop := knowProjectsRow.holds Tryz.pinned (OpenSpec.ofChange knowProjectsSpec)

/-- ITS FALSE NEIGHBOUR: 'it returns false'. Refute it at one input. -/
def knowProjectsWrong : ChangeSpec := { name := "knowProjects", fn := fun _ => fun
  | [d1, d2, d3] => { results := [.lit (.bool false)], args := [d1, d2, d3] }
  | _ => none }
def KnowProjectsWrongFalsely : Prop := knowProjectsRow.holds Tryz.pinned (OpenSpec.ofChange knowProjectsWrong)

/-- 'kenninglaw14.KnowDenotes': WHATEVER THE INPUT: true; the input reads as it did. -/
def knowDenotesSpec : ChangeSpec := { name := "knowDenotes", fn := fun _ => fun
  | [d1, d2, d3] => { results := [.lit (.bool true)], args := [d1, d2, d3] }
  | _ => none }
def knowDenotesRow : OpenClaim := { program := "ytonhfknjcbakiaagreatdoor", sum := "085567a20840c099cff3069c9addf1b77905610c5fe0badfdc73fb7d7b789216", func := "kenning/kenninglaw14.KnowDenotes", spec := "knowDenotes", inPlace := ["slices.overlaps[uint64]", "internal/reflectlite.ValueOf", "(internal/reflectlite.Value).Type", "(internal/reflectlite.Value).IsNil", "internal/reflectlite.TypeOf", "(internal/reflectlite.Value).Elem", "(internal/reflectlite.Value).Set", "slices.overlaps[kenning/api.Fragment]"], unfollowed := true, recurses := true, named := ["errors.errorType", "kenning/canon.codes"], apart := false, laid := [("errors.errorType", laid_errors_errorType), ("kenning/canon.codes", laid_kenning_canon_codes)] }
def KnowDenotesSaid : Prop := knowDenotesRow.holds Tryz.pinned (OpenSpec.ofChange knowDenotesSpec)

/-- ITS FALSE NEIGHBOUR: 'it returns false'. Refute it at one input. -/
def knowDenotesWrong : ChangeSpec := { name := "knowDenotes", fn := fun _ => fun
  | [d1, d2, d3] => { results := [.lit (.bool false)], args := [d1, d2, d3] }
  | _ => none }
def KnowDenotesWrongFalsely : Prop := knowDenotesRow.holds Tryz.pinned (OpenSpec.ofChange knowDenotesWrong)

/-- 'kenninglaw15.OrderRejects': WHATEVER THE INPUT: true; the input reads as it did. -/
def orderRejectsSpec : ChangeSpec := { name := "orderRejects", fn := fun _ => fun
  | [d1, d2] => { results := [.lit (.bool true)], args := [d1, d2] }
  | _ => none }
def orderRejectsRow : OpenClaim := { program := "ytonhfknjcbakiaagreatdoor", sum := "085567a20840c099cff3069c9addf1b77905610c5fe0badfdc73fb7d7b789216", func := "kenning/kenninglaw15.OrderRejects", spec := "orderRejects", inPlace := ["internal/reflectlite.ValueOf", "(internal/reflectlite.Value).Type", "(internal/reflectlite.Value).IsNil", "internal/reflectlite.TypeOf", "(internal/reflectlite.Value).Elem", "(internal/reflectlite.Value).Set", "slices.overlaps[uint64]", "slices.overlaps[kenning/api.Fragment]"], unfollowed := true, recurses := true, named := ["errors.errorType"], apart := false, laid := [("errors.errorType", laid_errors_errorType)] }
def OrderRejectsSaid : Prop := orderRejectsRow.holds Tryz.pinned (OpenSpec.ofChange orderRejectsSpec)

/-- ITS FALSE NEIGHBOUR: 'it returns false'. Refute it at one input. -/
def orderRejectsWrong : ChangeSpec := { name := "orderRejects", fn := fun _ => fun
  | [d1, d2] => { results := [.lit (.bool false)], args := [d1, d2] }
  | _ => none }
def OrderRejectsWrongFalsely : Prop := orderRejectsRow.holds Tryz.pinned (OpenSpec.ofChange orderRejectsWrong)

/- THE SECOND FORM. 'bulk': how many values and letters a reading holds, each counted each time it is reached (what is shared counts as often as it is met; a slice's spare places count too). A statement '..UptoSaid' is the law's where the arguments, and the package variables that the reading takes, are together of bulk at most 1048576: NARROWER than '..Said'. Prove '..Said' where nothing that the law and all that it calls make is longer than what came in: it says more and counts as full. Else prove '..UptoSaid'. A law counts once. -/
mutual
def uptoBulk {H : Type} : DataW H → Nat
  | .lit (.string bytes) => bytes.length + 1
  | .lit _ => 1
  | .nil => 1
  | .ptr d => uptoBulk d + 1
  | .slice elems spare => uptoBulkAll elems + uptoBulkAll spare + 1
  | .agg parts => uptoBulkAll parts + 1
  | .iface _ d => uptoBulk d + 1
  | .map entries => uptoBulkEntries entries + 1
  | .held _ => 1
def uptoBulkAll {H : Type} : List (DataW H) → Nat
  | [] => 0
  | d :: r => uptoBulk d + uptoBulkAll r
def uptoBulkEntries {H : Type} : List (Lit × DataW H) → Nat
  | [] => 0
  | x :: r => uptoBulkEntry x + uptoBulkEntries r
def uptoBulkEntry {H : Type} : Lit × DataW H → Nat
  | (.string bytes, d) => bytes.length + uptoBulk d + 1
  | (_, d) => uptoBulk d + 1
 end
def uptoSmall : (H : Type) → List (DataW H) → Bool := fun _ ds => decide (uptoBulkAll ds ≤ 1048576)
def OpenSpec.upto (s : _root_.Go.ChangeSpec) : _root_.Go.OpenSpec := { _root_.Go.OpenSpec.ofChange s with cond := some uptoSmall }

/-- 'kenninglaw11.ScopeClones', WHERE WHAT IT READS IS OF BULK AT MOST 1048576: true; the input reads as it did. -/
def scopeClonesUptoRow : OpenClaim := { program := "ytonhfknjcbakiaagreatdoor", sum := "085567a20840c099cff3069c9addf1b77905610c5fe0badfdc73fb7d7b789216", func := "kenning/kenninglaw11.ScopeClones", spec := "scopeClones", inPlace := ["internal/reflectlite.ValueOf", "(internal/reflectlite.Value).Type", "(internal/reflectlite.Value).IsNil", "internal/reflectlite.TypeOf", "(internal/reflectlite.Value).Elem", "(internal/reflectlite.Value).Set", "slices.overlaps[uint64]"], unfollowed := true, recurses := true, named := ["errors.errorType"], apart := false, laid := [("errors.errorType", laid_errors_errorType)], narrowed := true }
def ScopeClonesUptoSaid : Prop := scopeClonesUptoRow.holds Tryz.pinned (OpenSpec.upto scopeClonesSpec)

/-- 'kenninglaw14.KnowAlgebra', WHERE WHAT IT READS IS OF BULK AT MOST 1048576: true; the input reads as it did. -/
def knowAlgebraUptoRow : OpenClaim := { program := "ytonhfknjcbakiaagreatdoor", sum := "085567a20840c099cff3069c9addf1b77905610c5fe0badfdc73fb7d7b789216", func := "kenning/kenninglaw14.KnowAlgebra", spec := "knowAlgebra", inPlace := ["slices.overlaps[uint64]", "internal/reflectlite.ValueOf", "(internal/reflectlite.Value).Type", "(internal/reflectlite.Value).IsNil", "internal/reflectlite.TypeOf", "(internal/reflectlite.Value).Elem", "(internal/reflectlite.Value).Set", "slices.overlaps[kenning/api.Fragment]"], unfollowed := true, recurses := true, named := ["errors.errorType"], apart := false, laid := [("errors.errorType", laid_errors_errorType)], narrowed := true }
def KnowAlgebraUptoSaid : Prop := knowAlgebraUptoRow.holds Tryz.pinned (OpenSpec.upto knowAlgebraSpec)

/-- 'kenninglaw14.KnowParts', WHERE WHAT IT READS IS OF BULK AT MOST 1048576: true; the input reads as it did. -/
def knowPartsUptoRow : OpenClaim := { program := "ytonhfknjcbakiaagreatdoor", sum := "085567a20840c099cff3069c9addf1b77905610c5fe0badfdc73fb7d7b789216", func := "kenning/kenninglaw14.KnowParts", spec := "knowParts", inPlace := ["slices.overlaps[uint64]", "internal/reflectlite.ValueOf", "(internal/reflectlite.Value).Type", "(internal/reflectlite.Value).IsNil", "internal/reflectlite.TypeOf", "(internal/reflectlite.Value).Elem", "(internal/reflectlite.Value).Set", "slices.overlaps[kenning/api.Fragment]"], unfollowed := true, recurses := true, named := ["errors.errorType"], apart := false, laid := [("errors.errorType", laid_errors_errorType)], narrowed := true }
def KnowPartsUptoSaid : Prop := knowPartsUptoRow.holds Tryz.pinned (OpenSpec.upto knowPartsSpec)

/-- 'kenninglaw15.OrderLeast', WHERE WHAT IT READS IS OF BULK AT MOST 1048576: true; the input reads as it did. -/
def orderLeastUptoRow : OpenClaim := { program := "ytonhfknjcbakiaagreatdoor", sum := "085567a20840c099cff3069c9addf1b77905610c5fe0badfdc73fb7d7b789216", func := "kenning/kenninglaw15.OrderLeast", spec := "orderLeast", inPlace := ["internal/reflectlite.ValueOf", "(internal/reflectlite.Value).Type", "(internal/reflectlite.Value).IsNil", "internal/reflectlite.TypeOf", "(internal/reflectlite.Value).Elem", "(internal/reflectlite.Value).Set", "slices.overlaps[uint64]", "slices.overlaps[kenning/api.Fragment]"], unfollowed := true, recurses := true, named := ["errors.errorType"], apart := false, laid := [("errors.errorType", laid_errors_errorType)], narrowed := true }
def OrderLeastUptoSaid : Prop := orderLeastUptoRow.holds Tryz.pinned (OpenSpec.upto orderLeastSpec)

/-- 'kenninglaw14.KnowInserts', WHERE WHAT IT READS IS OF BULK AT MOST 1048576: true; the input reads as it did. -/
def knowInsertsUptoRow : OpenClaim := { program := "ytonhfknjcbakiaagreatdoor", sum := "085567a20840c099cff3069c9addf1b77905610c5fe0badfdc73fb7d7b789216", func := "kenning/kenninglaw14.KnowInserts", spec := "knowInserts", inPlace := ["slices.overlaps[uint64]", "internal/reflectlite.ValueOf", "(internal/reflectlite.Value).Type", "(internal/reflectlite.Value).IsNil", "internal/reflectlite.TypeOf", "(internal/reflectlite.Value).Elem", "(internal/reflectlite.Value).Set", "slices.overlaps[kenning/api.Fragment]"], unfollowed := true, recurses := true, named := ["errors.errorType"], apart := false, laid := [("errors.errorType", laid_errors_errorType)], narrowed := true }
def KnowInsertsUptoSaid : Prop := knowInsertsUptoRow.holds Tryz.pinned (OpenSpec.upto knowInsertsSpec)

/-- 'kenninglaw15.OrderWitness', WHERE WHAT IT READS IS OF BULK AT MOST 1048576: true; the input reads as it did. -/
def orderWitnessUptoRow : OpenClaim := { program := "ytonhfknjcbakiaagreatdoor", sum := "085567a20840c099cff3069c9addf1b77905610c5fe0badfdc73fb7d7b789216", func := "kenning/kenninglaw15.OrderWitness", spec := "orderWitness", inPlace := ["internal/reflectlite.ValueOf", "(internal/reflectlite.Value).Type", "(internal/reflectlite.Value).IsNil", "internal/reflectlite.TypeOf", "(internal/reflectlite.Value).Elem", "(internal/reflectlite.Value).Set", "slices.overlaps[uint64]", "slices.overlaps[kenning/api.Fragment]"], unfollowed := true, recurses := true, named := ["errors.errorType"], apart := false, laid := [("errors.errorType", laid_errors_errorType)], narrowed := true }
def OrderWitnessUptoSaid : Prop := orderWitnessUptoRow.holds Tryz.pinned (OpenSpec.upto orderWitnessSpec)

/-- 'kenninglaw14.KnowMatches', WHERE WHAT IT READS IS OF BULK AT MOST 1048576: true; the input reads as it did. -/
def knowMatchesUptoRow : OpenClaim := { program := "ytonhfknjcbakiaagreatdoor", sum := "085567a20840c099cff3069c9addf1b77905610c5fe0badfdc73fb7d7b789216", func := "kenning/kenninglaw14.KnowMatches", spec := "knowMatches", inPlace := ["slices.overlaps[uint64]", "internal/reflectlite.ValueOf", "(internal/reflectlite.Value).Type", "(internal/reflectlite.Value).IsNil", "internal/reflectlite.TypeOf", "(internal/reflectlite.Value).Elem", "(internal/reflectlite.Value).Set", "slices.overlaps[kenning/api.Fragment]"], unfollowed := true, recurses := true, named := ["errors.errorType"], apart := false, laid := [("errors.errorType", laid_errors_errorType)], narrowed := true }
def KnowMatchesUptoSaid : Prop := knowMatchesUptoRow.holds Tryz.pinned (OpenSpec.upto knowMatchesSpec)

/-- 'kenninglaw14.KnowProjects', WHERE WHAT IT READS IS OF BULK AT MOST 1048576: true; the input reads as it did. -/
def knowProjectsUptoRow : OpenClaim := { program := "ytonhfknjcbakiaagreatdoor", sum := "085567a20840c099cff3069c9addf1b77905610c5fe0badfdc73fb7d7b789216", func := "kenning/kenninglaw14.KnowProjects", spec := "knowProjects", inPlace := ["slices.overlaps[uint64]", "internal/reflectlite.ValueOf", "(internal/reflectlite.Value).Type", "(internal/reflectlite.Value).IsNil", "internal/reflectlite.TypeOf", "(internal/reflectlite.Value).Elem", "(internal/reflectlite.Value).Set", "slices.overlaps[kenning/api.Fragment]"], unfollowed := true, recurses := true, named := ["errors.errorType"], apart := false, laid := [("errors.errorType", laid_errors_errorType)], narrowed := true }
def KnowProjectsUptoSaid : Prop := knowProjectsUptoRow.holds Tryz.pinned (OpenSpec.upto knowProjectsSpec)

/-- 'kenninglaw14.KnowDenotes', WHERE WHAT IT READS IS OF BULK AT MOST 1048576: true; the input reads as it did. -/
def knowDenotesUptoRow : OpenClaim := { program := "ytonhfknjcbakiaagreatdoor", sum := "085567a20840c099cff3069c9addf1b77905610c5fe0badfdc73fb7d7b789216", func := "kenning/kenninglaw14.KnowDenotes", spec := "knowDenotes", inPlace := ["slices.overlaps[uint64]", "internal/reflectlite.ValueOf", "(internal/reflectlite.Value).Type", "(internal/reflectlite.Value).IsNil", "internal/reflectlite.TypeOf", "(internal/reflectlite.Value).Elem", "(internal/reflectlite.Value).Set", "slices.overlaps[kenning/api.Fragment]"], unfollowed := true, recurses := true, named := ["errors.errorType", "kenning/canon.codes"], apart := false, laid := [("errors.errorType", laid_errors_errorType), ("kenning/canon.codes", laid_kenning_canon_codes)], narrowed := true }
def KnowDenotesUptoSaid : Prop := knowDenotesUptoRow.holds Tryz.pinned (OpenSpec.upto knowDenotesSpec)

/-- 'kenninglaw15.OrderRejects', WHERE WHAT IT READS IS OF BULK AT MOST 1048576: true; the input reads as it did. -/
def orderRejectsUptoRow : OpenClaim := { program := "ytonhfknjcbakiaagreatdoor", sum := "085567a20840c099cff3069c9addf1b77905610c5fe0badfdc73fb7d7b789216", func := "kenning/kenninglaw15.OrderRejects", spec := "orderRejects", inPlace := ["internal/reflectlite.ValueOf", "(internal/reflectlite.Value).Type", "(internal/reflectlite.Value).IsNil", "internal/reflectlite.TypeOf", "(internal/reflectlite.Value).Elem", "(internal/reflectlite.Value).Set", "slices.overlaps[uint64]", "slices.overlaps[kenning/api.Fragment]"], unfollowed := true, recurses := true, named := ["errors.errorType"], apart := false, laid := [("errors.errorType", laid_errors_errorType)], narrowed := true }
def OrderRejectsUptoSaid : Prop := orderRejectsUptoRow.holds Tryz.pinned (OpenSpec.upto orderRejectsSpec)

end Rows
end Go.Proofs.YtonhfknjcbakiaaGreatDoor
