/-
  NARROWER THAN 'FOR EVERY INPUT', by the rows' own cells (each row's printed sentence says how): SetopsDenote: laid · EntryKnows: laid · EntryOf: laid · EntryKeeps: laid · EntryChecks: laid · EntrySame: laid · EntryCanon: laid · VectorKnows: laid · VectorNumbers: laid · VectorOrder: laid · VectorChecks: laid · JoinDenotes: laid · VectorCanon: laid · VectorKeeps: laid.
  DERIVED. THE GIVEN ROWS OF THIS SEAT. 14 by the template 'for every input the law returns true; each argument reads behind the call as it read before'; 0 by the template 'total and deterministic' (their statements: YtcedofkenfddkaaDoorTotals.lean).
  GIVEN WITH THE SEED: the statements are not yours to turn. If you find one false, say at which input.
  Laid BY PROGRAM, IN A SANDBOX (cutbox-rows.mjs): the forced cells as the released guide's own fill.sh prints them over the translation f7d9aba1c2b31b4e… (all of the seat's roots in one cut). By AI agents, Wed Nov 11 2026. No macro, syntax, notation, axiom, sorry.
-/
import Derived.Test.YtcedofkenfddkaaDoorChecked
import GoSem.Claim
import GoSem.ClaimJoined
import GoSem.ClaimMapViews
import Derived.JoinedTies
import Derived.KernelRfl
namespace Go.Proofs.YtcedofkenfddkaaDoor
/- THE CELL 'sum', in the pinned program and in every row, IS THE sha256 OF THE DUMP (.gsa) THAT YtcedofkenfddkaaDoorProg.lean LOADS. Nothing in Lean hashes anything: it is a label: what it is worth is what the hold of that sum in a sandbox is worth. -/
noncomputable def Tryd.pinned : Pinned := { name := "ytcedofkenfddkaadoor", sum := "f7d9aba1c2b31b4e21e029678b86751534d2ebec021a83df2d1288e62baa6132", checked := Tryd.checked }
namespace Rows
def none {H : Type} : Left H := { results := [], args := [] }

/- WHAT THE LISTED PACKAGE-LEVEL VARIABLES READ AS WHEN THE CALL BEGINS. Each datum BY PROGRAM (the guide's laid-datum.mjs) off the statement by which the dump's own 'gosem.cut.vars' lays the variable. In a bare row this is a premise. The card (YtcedofkenfddkaaDoorCards.lean) ties it to the program's text. -/
def laid_errors_errorType {H : Type} : DataW H := .iface "internal/reflectlite.rtype" (.agg [.ptr (.lit (.string [101, 114, 114, 111, 114]))])

/-- 'kenninglaw05.SetopsDenote': WHATEVER THE INPUT: true; the input reads as it did. -/
def setopsDenoteSpec : ChangeSpec := { name := "setopsDenote", fn := fun _ => fun
  | [d1, d2, d3] => { results := [.lit (.bool true)], args := [d1, d2, d3] }
  | _ => none }
def setopsDenoteRow : OpenClaim := { program := "ytcedofkenfddkaadoor", sum := "f7d9aba1c2b31b4e21e029678b86751534d2ebec021a83df2d1288e62baa6132", func := "kenning/kenninglaw05.SetopsDenote", spec := "setopsDenote", inPlace := ["internal/reflectlite.ValueOf", "(internal/reflectlite.Value).Type", "(internal/reflectlite.Value).IsNil", "internal/reflectlite.TypeOf", "(internal/reflectlite.Value).Elem", "(internal/reflectlite.Value).Set"], unfollowed := true, recurses := true, named := ["errors.errorType"], apart := false, laid := [("errors.errorType", laid_errors_errorType)] }
def SetopsDenoteSaid : Prop := setopsDenoteRow.holds Tryd.pinned (OpenSpec.ofChange setopsDenoteSpec)

/-- ITS FALSE NEIGHBOUR: 'it returns false'. Refute it at one input. -/
def setopsDenoteWrong : ChangeSpec := { name := "setopsDenote", fn := fun _ => fun
  | [d1, d2, d3] => { results := [.lit (.bool false)], args := [d1, d2, d3] }
  | _ => none }
def SetopsDenoteWrongFalsely : Prop := setopsDenoteRow.holds Tryd.pinned (OpenSpec.ofChange setopsDenoteWrong)

/-- 'kenninglaw07.EntryKnows': WHATEVER THE INPUT: true; the input reads as it did. -/
def entryKnowsSpec : ChangeSpec := { name := "entryKnows", fn := fun _ => fun
  | [d1, d2] => { results := [.lit (.bool true)], args := [d1, d2] }
  | _ => none }
def entryKnowsRow : OpenClaim := { program := "ytcedofkenfddkaadoor", sum := "f7d9aba1c2b31b4e21e029678b86751534d2ebec021a83df2d1288e62baa6132", func := "kenning/kenninglaw07.EntryKnows", spec := "entryKnows", inPlace := ["internal/reflectlite.ValueOf", "(internal/reflectlite.Value).Type", "(internal/reflectlite.Value).IsNil", "internal/reflectlite.TypeOf", "(internal/reflectlite.Value).Elem", "(internal/reflectlite.Value).Set"], unfollowed := true, recurses := true, named := ["errors.errorType"], apart := false, laid := [("errors.errorType", laid_errors_errorType)] }
def EntryKnowsSaid : Prop := entryKnowsRow.holds Tryd.pinned (OpenSpec.ofChange entryKnowsSpec)

/-- ITS FALSE NEIGHBOUR: 'it returns false'. Refute it at one input. -/
def entryKnowsWrong : ChangeSpec := { name := "entryKnows", fn := fun _ => fun
  | [d1, d2] => { results := [.lit (.bool false)], args := [d1, d2] }
  | _ => none }
def EntryKnowsWrongFalsely : Prop := entryKnowsRow.holds Tryd.pinned (OpenSpec.ofChange entryKnowsWrong)

/-- 'kenninglaw07.EntryOf': WHATEVER THE INPUT: true; the input reads as it did. -/
def entryOfSpec : ChangeSpec := { name := "entryOf", fn := fun _ => fun
  | [d1, d2] => { results := [.lit (.bool true)], args := [d1, d2] }
  | _ => none }
def entryOfRow : OpenClaim := { program := "ytcedofkenfddkaadoor", sum := "f7d9aba1c2b31b4e21e029678b86751534d2ebec021a83df2d1288e62baa6132", func := "kenning/kenninglaw07.EntryOf", spec := "entryOf", inPlace := ["internal/reflectlite.ValueOf", "(internal/reflectlite.Value).Type", "(internal/reflectlite.Value).IsNil", "internal/reflectlite.TypeOf", "(internal/reflectlite.Value).Elem", "(internal/reflectlite.Value).Set"], unfollowed := true, recurses := true, named := ["errors.errorType"], apart := false, laid := [("errors.errorType", laid_errors_errorType)] }
def EntryOfSaid : Prop := entryOfRow.holds Tryd.pinned (OpenSpec.ofChange entryOfSpec)

/-- ITS FALSE NEIGHBOUR: 'it returns false'. Refute it at one input. -/
def entryOfWrong : ChangeSpec := { name := "entryOf", fn := fun _ => fun
  | [d1, d2] => { results := [.lit (.bool false)], args := [d1, d2] }
  | _ => none }
def EntryOfWrongFalsely : Prop := entryOfRow.holds Tryd.pinned (OpenSpec.ofChange entryOfWrong)

/-- 'kenninglaw07.EntryKeeps': WHATEVER THE INPUT: true; the input reads as it did. -/
def entryKeepsSpec : ChangeSpec := { name := "entryKeeps", fn := fun _ => fun
  | [d] => { results := [.lit (.bool true)], args := [d] }
  | _ => none }
def entryKeepsRow : OpenClaim := { program := "ytcedofkenfddkaadoor", sum := "f7d9aba1c2b31b4e21e029678b86751534d2ebec021a83df2d1288e62baa6132", func := "kenning/kenninglaw07.EntryKeeps", spec := "entryKeeps", inPlace := ["internal/reflectlite.ValueOf", "(internal/reflectlite.Value).Type", "(internal/reflectlite.Value).IsNil", "internal/reflectlite.TypeOf", "(internal/reflectlite.Value).Elem", "(internal/reflectlite.Value).Set"], unfollowed := true, recurses := true, named := ["errors.errorType"], apart := false, laid := [("errors.errorType", laid_errors_errorType)] }
def EntryKeepsSaid : Prop := entryKeepsRow.holds Tryd.pinned (OpenSpec.ofChange entryKeepsSpec)

/-- ITS FALSE NEIGHBOUR: 'it returns false'. Refute it at one input. -/
def entryKeepsWrong : ChangeSpec := { name := "entryKeeps", fn := fun _ => fun
  | [d] => { results := [.lit (.bool false)], args := [d] }
  | _ => none }
def EntryKeepsWrongFalsely : Prop := entryKeepsRow.holds Tryd.pinned (OpenSpec.ofChange entryKeepsWrong)

/-- 'kenninglaw07.EntryChecks': WHATEVER THE INPUT: true; the input reads as it did. -/
def entryChecksSpec : ChangeSpec := { name := "entryChecks", fn := fun _ => fun
  | [d] => { results := [.lit (.bool true)], args := [d] }
  | _ => none }
def entryChecksRow : OpenClaim := { program := "ytcedofkenfddkaadoor", sum := "f7d9aba1c2b31b4e21e029678b86751534d2ebec021a83df2d1288e62baa6132", func := "kenning/kenninglaw07.EntryChecks", spec := "entryChecks", inPlace := ["internal/reflectlite.ValueOf", "(internal/reflectlite.Value).Type", "(internal/reflectlite.Value).IsNil", "internal/reflectlite.TypeOf", "(internal/reflectlite.Value).Elem", "(internal/reflectlite.Value).Set"], unfollowed := true, recurses := true, named := ["errors.errorType"], apart := false, laid := [("errors.errorType", laid_errors_errorType)] }
def EntryChecksSaid : Prop := entryChecksRow.holds Tryd.pinned (OpenSpec.ofChange entryChecksSpec)

/-- ITS FALSE NEIGHBOUR: 'it returns false'. Refute it at one input. -/
def entryChecksWrong : ChangeSpec := { name := "entryChecks", fn := fun _ => fun
  | [d] => { results := [.lit (.bool false)], args := [d] }
  | _ => none }
def EntryChecksWrongFalsely : Prop := entryChecksRow.holds Tryd.pinned (OpenSpec.ofChange entryChecksWrong)

/-- 'kenninglaw07.EntrySame': WHATEVER THE INPUT: true; the input reads as it did. -/
def entrySameSpec : ChangeSpec := { name := "entrySame", fn := fun _ => fun
  | [d1, d2] => { results := [.lit (.bool true)], args := [d1, d2] }
  | _ => none }
def entrySameRow : OpenClaim := { program := "ytcedofkenfddkaadoor", sum := "f7d9aba1c2b31b4e21e029678b86751534d2ebec021a83df2d1288e62baa6132", func := "kenning/kenninglaw07.EntrySame", spec := "entrySame", inPlace := ["internal/reflectlite.ValueOf", "(internal/reflectlite.Value).Type", "(internal/reflectlite.Value).IsNil", "internal/reflectlite.TypeOf", "(internal/reflectlite.Value).Elem", "(internal/reflectlite.Value).Set"], unfollowed := true, recurses := true, named := ["errors.errorType"], apart := false, laid := [("errors.errorType", laid_errors_errorType)] }
def EntrySameSaid : Prop := entrySameRow.holds Tryd.pinned (OpenSpec.ofChange entrySameSpec)

/-- ITS FALSE NEIGHBOUR: 'it returns false'. Refute it at one input. -/
def entrySameWrong : ChangeSpec := { name := "entrySame", fn := fun _ => fun
  | [d1, d2] => { results := [.lit (.bool false)], args := [d1, d2] }
  | _ => none }
def EntrySameWrongFalsely : Prop := entrySameRow.holds Tryd.pinned (OpenSpec.ofChange entrySameWrong)

/-- 'kenninglaw07.EntryCanon': WHATEVER THE INPUT: true; the input reads as it did. -/
def entryCanonSpec : ChangeSpec := { name := "entryCanon", fn := fun _ => fun
  | [d] => { results := [.lit (.bool true)], args := [d] }
  | _ => none }
def entryCanonRow : OpenClaim := { program := "ytcedofkenfddkaadoor", sum := "f7d9aba1c2b31b4e21e029678b86751534d2ebec021a83df2d1288e62baa6132", func := "kenning/kenninglaw07.EntryCanon", spec := "entryCanon", inPlace := ["internal/reflectlite.ValueOf", "(internal/reflectlite.Value).Type", "(internal/reflectlite.Value).IsNil", "internal/reflectlite.TypeOf", "(internal/reflectlite.Value).Elem", "(internal/reflectlite.Value).Set"], unfollowed := true, recurses := true, named := ["errors.errorType"], apart := false, laid := [("errors.errorType", laid_errors_errorType)] }
def EntryCanonSaid : Prop := entryCanonRow.holds Tryd.pinned (OpenSpec.ofChange entryCanonSpec)

/-- ITS FALSE NEIGHBOUR: 'it returns false'. Refute it at one input. -/
def entryCanonWrong : ChangeSpec := { name := "entryCanon", fn := fun _ => fun
  | [d] => { results := [.lit (.bool false)], args := [d] }
  | _ => none }
def EntryCanonWrongFalsely : Prop := entryCanonRow.holds Tryd.pinned (OpenSpec.ofChange entryCanonWrong)

/-- 'kenninglaw09.VectorKnows': WHATEVER THE INPUT: true; the input reads as it did. -/
def vectorKnowsSpec : ChangeSpec := { name := "vectorKnows", fn := fun _ => fun
  | [d1, d2, d3] => { results := [.lit (.bool true)], args := [d1, d2, d3] }
  | _ => none }
def vectorKnowsRow : OpenClaim := { program := "ytcedofkenfddkaadoor", sum := "f7d9aba1c2b31b4e21e029678b86751534d2ebec021a83df2d1288e62baa6132", func := "kenning/kenninglaw09.VectorKnows", spec := "vectorKnows", inPlace := ["internal/reflectlite.ValueOf", "(internal/reflectlite.Value).Type", "(internal/reflectlite.Value).IsNil", "internal/reflectlite.TypeOf", "(internal/reflectlite.Value).Elem", "(internal/reflectlite.Value).Set"], unfollowed := true, recurses := true, named := ["errors.errorType"], apart := false, laid := [("errors.errorType", laid_errors_errorType)] }
def VectorKnowsSaid : Prop := vectorKnowsRow.holds Tryd.pinned (OpenSpec.ofChange vectorKnowsSpec)

/-- ITS FALSE NEIGHBOUR: 'it returns false'. Refute it at one input. -/
def vectorKnowsWrong : ChangeSpec := { name := "vectorKnows", fn := fun _ => fun
  | [d1, d2, d3] => { results := [.lit (.bool false)], args := [d1, d2, d3] }
  | _ => none }
def VectorKnowsWrongFalsely : Prop := vectorKnowsRow.holds Tryd.pinned (OpenSpec.ofChange vectorKnowsWrong)

/-- 'kenninglaw09.VectorNumbers': WHATEVER THE INPUT: true; the input reads as it did. -/
def vectorNumbersSpec : ChangeSpec := { name := "vectorNumbers", fn := fun _ => fun
  | [d1, d2] => { results := [.lit (.bool true)], args := [d1, d2] }
  | _ => none }
def vectorNumbersRow : OpenClaim := { program := "ytcedofkenfddkaadoor", sum := "f7d9aba1c2b31b4e21e029678b86751534d2ebec021a83df2d1288e62baa6132", func := "kenning/kenninglaw09.VectorNumbers", spec := "vectorNumbers", inPlace := ["internal/reflectlite.ValueOf", "(internal/reflectlite.Value).Type", "(internal/reflectlite.Value).IsNil", "internal/reflectlite.TypeOf", "(internal/reflectlite.Value).Elem", "(internal/reflectlite.Value).Set"], unfollowed := true, recurses := true, named := ["errors.errorType"], apart := false, laid := [("errors.errorType", laid_errors_errorType)] }
def VectorNumbersSaid : Prop := vectorNumbersRow.holds Tryd.pinned (OpenSpec.ofChange vectorNumbersSpec)

/-- ITS FALSE NEIGHBOUR: 'it returns false'. Refute it at one input. -/
def vectorNumbersWrong : ChangeSpec := { name := "vectorNumbers", fn := fun _ => fun
  | [d1, d2] => { results := [.lit (.bool false)], args := [d1, d2] }
  | _ => none }
def VectorNumbersWrongFalsely : Prop := vectorNumbersRow.holds Tryd.pinned (OpenSpec.ofChange vectorNumbersWrong)

/-- 'kenninglaw09.VectorOrder': WHATEVER THE INPUT: true; the input reads as it did. -/
def vectorOrderSpec : ChangeSpec := { name := "vectorOrder", fn := fun _ => fun
  | [d1, d2, d3] => { results := [.lit (.bool true)], args := [d1, d2, d3] }
  | _ => none }
def vectorOrderRow : OpenClaim := { program := "ytcedofkenfddkaadoor", sum := "f7d9aba1c2b31b4e21e029678b86751534d2ebec021a83df2d1288e62baa6132", func := "kenning/kenninglaw09.VectorOrder", spec := "vectorOrder", inPlace := ["internal/reflectlite.ValueOf", "(internal/reflectlite.Value).Type", "(internal/reflectlite.Value).IsNil", "internal/reflectlite.TypeOf", "(internal/reflectlite.Value).Elem", "(internal/reflectlite.Value).Set"], unfollowed := true, recurses := true, named := ["errors.errorType"], apart := false, laid := [("errors.errorType", laid_errors_errorType)] }
def VectorOrderSaid : Prop := vectorOrderRow.holds Tryd.pinned (OpenSpec.ofChange vectorOrderSpec)

/-- ITS FALSE NEIGHBOUR: 'it returns false'. Refute it at one input. -/
def vectorOrderWrong : ChangeSpec := { name := "vectorOrder", fn := fun _ => fun
  | [d1, d2, d3] => { results := [.lit (.bool false)], args := [d1, d2, d3] }
  | _ => none }
def VectorOrderWrongFalsely : Prop := vectorOrderRow.holds Tryd.pinned (OpenSpec.ofChange vectorOrderWrong)

/-- 'kenninglaw09.VectorChecks': WHATEVER THE INPUT: true; the input reads as it did. -/
def vectorChecksSpec : ChangeSpec := { name := "vectorChecks", fn := fun _ => fun
  | [d] => { results := [.lit (.bool true)], args := [d] }
  | _ => none }
def vectorChecksRow : OpenClaim := { program := "ytcedofkenfddkaadoor", sum := "f7d9aba1c2b31b4e21e029678b86751534d2ebec021a83df2d1288e62baa6132", func := "kenning/kenninglaw09.VectorChecks", spec := "vectorChecks", inPlace := ["internal/reflectlite.ValueOf", "(internal/reflectlite.Value).Type", "(internal/reflectlite.Value).IsNil", "internal/reflectlite.TypeOf", "(internal/reflectlite.Value).Elem", "(internal/reflectlite.Value).Set"], unfollowed := true, recurses := true, named := ["errors.errorType"], apart := false, laid := [("errors.errorType", laid_errors_errorType)] }
def VectorChecksSaid : Prop := vectorChecksRow.holds Tryd.pinned (OpenSpec.ofChange vectorChecksSpec)

/-- ITS FALSE NEIGHBOUR: 'it returns false'. Refute it at one input. -/
def vectorChecksWrong : ChangeSpec := { name := "vectorChecks", fn := fun _ => fun
  | [d] => { results := [.lit (.bool false)], args := [d] }
  | _ => none }
def VectorChecksWrongFalsely : Prop := vectorChecksRow.holds Tryd.pinned (OpenSpec.ofChange vectorChecksWrong)

/-- 'kenninglaw08.JoinDenotes': WHATEVER THE INPUT: true; the input reads as it did. -/
def joinDenotesSpec : ChangeSpec := { name := "joinDenotes", fn := fun _ => fun
  | [d1, d2, d3] => { results := [.lit (.bool true)], args := [d1, d2, d3] }
  | _ => none }
def joinDenotesRow : OpenClaim := { program := "ytcedofkenfddkaadoor", sum := "f7d9aba1c2b31b4e21e029678b86751534d2ebec021a83df2d1288e62baa6132", func := "kenning/kenninglaw08.JoinDenotes", spec := "joinDenotes", inPlace := ["internal/reflectlite.ValueOf", "(internal/reflectlite.Value).Type", "(internal/reflectlite.Value).IsNil", "internal/reflectlite.TypeOf", "(internal/reflectlite.Value).Elem", "(internal/reflectlite.Value).Set"], unfollowed := true, recurses := true, named := ["errors.errorType"], apart := false, laid := [("errors.errorType", laid_errors_errorType)] }
def JoinDenotesSaid : Prop := joinDenotesRow.holds Tryd.pinned (OpenSpec.ofChange joinDenotesSpec)

/-- ITS FALSE NEIGHBOUR: 'it returns false'. Refute it at one input. -/
def joinDenotesWrong : ChangeSpec := { name := "joinDenotes", fn := fun _ => fun
  | [d1, d2, d3] => { results := [.lit (.bool false)], args := [d1, d2, d3] }
  | _ => none }
def JoinDenotesWrongFalsely : Prop := joinDenotesRow.holds Tryd.pinned (OpenSpec.ofChange joinDenotesWrong)

/-- 'kenninglaw09.VectorCanon': WHATEVER THE INPUT: true; the input reads as it did. -/
def vectorCanonSpec : ChangeSpec := { name := "vectorCanon", fn := fun _ => fun
  | [d1, d2, d3] => { results := [.lit (.bool true)], args := [d1, d2, d3] }
  | _ => none }
def vectorCanonRow : OpenClaim := { program := "ytcedofkenfddkaadoor", sum := "f7d9aba1c2b31b4e21e029678b86751534d2ebec021a83df2d1288e62baa6132", func := "kenning/kenninglaw09.VectorCanon", spec := "vectorCanon", inPlace := ["internal/reflectlite.ValueOf", "(internal/reflectlite.Value).Type", "(internal/reflectlite.Value).IsNil", "internal/reflectlite.TypeOf", "(internal/reflectlite.Value).Elem", "(internal/reflectlite.Value).Set"], unfollowed := true, recurses := true, named := ["errors.errorType"], apart := false, laid := [("errors.errorType", laid_errors_errorType)] }
def VectorCanonSaid : Prop := vectorCanonRow.holds Tryd.pinned (OpenSpec.ofChange vectorCanonSpec)

/-- ITS FALSE NEIGHBOUR: 'it returns false'. Refute it at one input. -/
def vectorCanonWrong : ChangeSpec := { name := "vectorCanon", fn := fun _ => fun
  | [d1, d2, d3] => { results := [.lit (.bool false)], args := [d1, d2, d3] }
  | _ => none }
def VectorCanonWrongFalsely : Prop := vectorCanonRow.holds Tryd.pinned (OpenSpec.ofChange vectorCanonWrong)

/-- 'kenninglaw09.VectorKeeps': WHATEVER THE INPUT: true; the input reads as it did. -/
def vectorKeepsSpec : ChangeSpec := { name := "vectorKeeps", fn := fun _ => fun
  | [d] => { results := [.lit (.bool true)], args := [d] }
  | _ => none }
def vectorKeepsRow : OpenClaim := { program := "ytcedofkenfddkaadoor", sum := "f7d9aba1c2b31b4e21e029678b86751534d2ebec021a83df2d1288e62baa6132", func := "kenning/kenninglaw09.VectorKeeps", spec := "vectorKeeps", inPlace := ["internal/reflectlite.ValueOf", "(internal/reflectlite.Value).Type", "(internal/reflectlite.Value).IsNil", "internal/reflectlite.TypeOf", "(internal/reflectlite.Value).Elem", "(internal/reflectlite.Value).Set"], unfollowed := true, recurses := true, named := ["errors.errorType"], apart := false, laid := [("errors.errorType", laid_errors_errorType)] }
def VectorKeepsSaid : Prop := vectorKeepsRow.holds Tryd.pinned (OpenSpec.ofChange vectorKeepsSpec)

/-- ITS FALSE NEIGHBOUR: 'it returns false'. Refute it at one input. -/
def vectorKeepsWrong : ChangeSpec := { name := "vectorKeeps", fn := fun _ => fun
  | [d] => { results := [.lit (.bool false)], args := [d] }
  | _ => none }
def VectorKeepsWrongFalsely : Prop := vectorKeepsRow.holds Tryd.pinned (OpenSpec.ofChange vectorKeepsWrong)

/- THE SECOND FORM. 'bulk': how many values and letters a reading holds, each counted each time it is reached (what is shared counts as often as it is met; a slice's spare places count too). A statement '..UptoSaid' is the law's where the arguments, and the package variables that the reading takes, are together of bulk at most 1048576: NARROWER than '..Said'. Prove '..Said' where nothing that the law and all that it calls make is longer than what came in: it says more and counts as full. Else prove '..UptoSaid'. A law counts once. -/
mutual
def uptoBulk {H : Type} : DataW H → Nat
  | .lit (.string bytes) => bytes.length + 1
  | .lit _ => 1
  | .nil => 1
  | .ptr d => uptoBulk d + 1
  | .slice elems spare => uptoBulkAll elems + uptoBulkAll spare + 1
  | .agg parts => uptoBulkAll parts + 1
  | .iface _ d => uptoBulk d + 1
  | .map entries => uptoBulkEntries entries + 1
  | .held _ => 1
def uptoBulkAll {H : Type} : List (DataW H) → Nat
  | [] => 0
  | d :: r => uptoBulk d + uptoBulkAll r
def uptoBulkEntries {H : Type} : List (Lit × DataW H) → Nat
  | [] => 0
  | x :: r => uptoBulkEntry x + uptoBulkEntries r
def uptoBulkEntry {H : Type} : Lit × DataW H → Nat
  | (.string bytes, d) => bytes.length + uptoBulk d + 1
  | (_, d) => uptoBulk d + 1
 end
def uptoSmall : (H : Type) → List (DataW H) → Bool := fun _ ds => decide (uptoBulkAll ds ≤ 1048576)
def OpenSpec.upto (s : _root_.Go.ChangeSpec) : _root_.Go.OpenSpec := { _root_.Go.OpenSpec.ofChange s with cond := some uptoSmall }

/-- 'kenninglaw05.SetopsDenote', WHERE WHAT IT READS IS OF BULK AT MOST 1048576: true; the input reads as it did. -/
def setopsDenoteUptoRow : OpenClaim := { program := "ytcedofkenfddkaadoor", sum := "f7d9aba1c2b31b4e21e029678b86751534d2ebec021a83df2d1288e62baa6132", func := "kenning/kenninglaw05.SetopsDenote", spec := "setopsDenote", inPlace := ["internal/reflectlite.ValueOf", "(internal/reflectlite.Value).Type", "(internal/reflectlite.Value).IsNil", "internal/reflectlite.TypeOf", "(internal/reflectlite.Value).Elem", "(internal/reflectlite.Value).Set"], unfollowed := true, recurses := true, named := ["errors.errorType"], apart := false, laid := [("errors.errorType", laid_errors_errorType)], narrowed := true }
def SetopsDenoteUptoSaid : Prop := setopsDenoteUptoRow.holds Tryd.pinned (OpenSpec.upto setopsDenoteSpec)

/-- 'kenninglaw07.EntryKnows', WHERE WHAT IT READS IS OF BULK AT MOST 1048576: true; the input reads as it did. -/
def entryKnowsUptoRow : OpenClaim := { program := "ytcedofkenfddkaadoor", sum := "f7d9aba1c2b31b4e21e029678b86751534d2ebec021a83df2d1288e62baa6132", func := "kenning/kenninglaw07.EntryKnows", spec := "entryKnows", inPlace := ["internal/reflectlite.ValueOf", "(internal/reflectlite.Value).Type", "(internal/reflectlite.Value).IsNil", "internal/reflectlite.TypeOf", "(internal/reflectlite.Value).Elem", "(internal/reflectlite.Value).Set"], unfollowed := true, recurses := true, named := ["errors.errorType"], apart := false, laid := [("errors.errorType", laid_errors_errorType)], narrowed := true }
def EntryKnowsUptoSaid : Prop := entryKnowsUptoRow.holds Tryd.pinned (OpenSpec.upto entryKnowsSpec)

/-- 'kenninglaw07.EntryOf', WHERE WHAT IT READS IS OF BULK AT MOST 1048576: true; the input reads as it did. -/
def entryOfUptoRow : OpenClaim := { program := "ytcedofkenfddkaadoor", sum := "f7d9aba1c2b31b4e21e029678b86751534d2ebec021a83df2d1288e62baa6132", func := "kenning/kenninglaw07.EntryOf", spec := "entryOf", inPlace := ["internal/reflectlite.ValueOf", "(internal/reflectlite.Value).Type", "(internal/reflectlite.Value).IsNil", "internal/reflectlite.TypeOf", "(internal/reflectlite.Value).Elem", "(internal/reflectlite.Value).Set"], unfollowed := true, recurses := true, named := ["errors.errorType"], apart := false, laid := [("errors.errorType", laid_errors_errorType)], narrowed := true }
def EntryOfUptoSaid : Prop := entryOfUptoRow.holds Tryd.pinned (OpenSpec.upto entryOfSpec)

/-- 'kenninglaw07.EntryKeeps', WHERE WHAT IT READS IS OF BULK AT MOST 1048576: true; the input reads as it did. -/
def entryKeepsUptoRow : OpenClaim := { program := "ytcedofkenfddkaadoor", sum := "f7d9aba1c2b31b4e21e029678b86751534d2ebec021a83df2d1288e62baa6132", func := "kenning/kenninglaw07.EntryKeeps", spec := "entryKeeps", inPlace := ["internal/reflectlite.ValueOf", "(internal/reflectlite.Value).Type", "(internal/reflectlite.Value).IsNil", "internal/reflectlite.TypeOf", "(internal/reflectlite.Value).Elem", "(internal/reflectlite.Value).Set"], unfollowed := true, recurses := true, named := ["errors.errorType"], apart := false, laid := [("errors.errorType", laid_errors_errorType)], narrowed := true }
def EntryKeepsUptoSaid : Prop := entryKeepsUptoRow.holds Tryd.pinned (OpenSpec.upto entryKeepsSpec)

/-- 'kenninglaw07.EntryChecks', WHERE WHAT IT READS IS OF BULK AT MOST 1048576: true; the input reads as it did. -/
def entryChecksUptoRow : OpenClaim := { program := "ytcedofkenfddkaadoor", sum := "f7d9aba1c2b31b4e21e029678b86751534d2ebec021a83df2d1288e62baa6132", func := "kenning/kenninglaw07.EntryChecks", spec := "entryChecks", inPlace := ["internal/reflectlite.ValueOf", "(internal/reflectlite.Value).Type", "(internal/reflectlite.Value).IsNil", "internal/reflectlite.TypeOf", "(internal/reflectlite.Value).Elem", "(internal/reflectlite.Value).Set"], unfollowed := true, recurses := true, named := ["errors.errorType"], apart := false, laid := [("errors.errorType", laid_errors_errorType)], narrowed := true }
def EntryChecksUptoSaid : Prop := entryChecksUptoRow.holds Tryd.pinned (OpenSpec.upto entryChecksSpec)

/-- 'kenninglaw07.EntrySame', WHERE WHAT IT READS IS OF BULK AT MOST 1048576: true; the input reads as it did. -/
def entrySameUptoRow : OpenClaim := { program := "ytcedofkenfddkaadoor", sum := "f7d9aba1c2b31b4e21e029678b86751534d2ebec021a83df2d1288e62baa6132", func := "kenning/kenninglaw07.EntrySame", spec := "entrySame", inPlace := ["internal/reflectlite.ValueOf", "(internal/reflectlite.Value).Type", "(internal/reflectlite.Value).IsNil", "internal/reflectlite.TypeOf", "(internal/reflectlite.Value).Elem", "(internal/reflectlite.Value).Set"], unfollowed := true, recurses := true, named := ["errors.errorType"], apart := false, laid := [("errors.errorType", laid_errors_errorType)], narrowed := true }
def EntrySameUptoSaid : Prop := entrySameUptoRow.holds Tryd.pinned (OpenSpec.upto entrySameSpec)

/-- 'kenninglaw07.EntryCanon', WHERE WHAT IT READS IS OF BULK AT MOST 1048576: true; the input reads as it did. -/
def entryCanonUptoRow : OpenClaim := { program := "ytcedofkenfddkaadoor", sum := "f7d9aba1c2b31b4e21e029678b86751534d2ebec021a83df2d1288e62baa6132", func := "kenning/kenninglaw07.EntryCanon", spec := "entryCanon", inPlace := ["internal/reflectlite.ValueOf", "(internal/reflectlite.Value).Type", "(internal/reflectlite.Value).IsNil", "internal/reflectlite.TypeOf", "(internal/reflectlite.Value).Elem", "(internal/reflectlite.Value).Set"], unfollowed := true, recurses := true, named := ["errors.errorType"], apart := false, laid := [("errors.errorType", laid_errors_errorType)], narrowed := true }
def EntryCanonUptoSaid : Prop := entryCanonUptoRow.holds Tryd.pinned (OpenSpec.upto entryCanonSpec)

/-- 'kenninglaw09.VectorKnows', WHERE WHAT IT READS IS OF BULK AT MOST 1048576: true; the input reads as it did. -/
def vectorKnowsUptoRow : OpenClaim := { program := "ytcedofkenfddkaadoor", sum := "f7d9aba1c2b31b4e21e029678b86751534d2ebec021a83df2d1288e62baa6132", func := "kenning/kenninglaw09.VectorKnows", spec := "vectorKnows", inPlace := ["internal/reflectlite.ValueOf", "(internal/reflectlite.Value).Type", "(internal/reflectlite.Value).IsNil", "internal/reflectlite.TypeOf", "(internal/reflectlite.Value).Elem", "(internal/reflectlite.Value).Set"], unfollowed := true, recurses := true, named := ["errors.errorType"], apart := false, laid := [("errors.errorType", laid_errors_errorType)], narrowed := true }
def VectorKnowsUptoSaid : Prop := vectorKnowsUptoRow.holds Tryd.pinned (OpenSpec.upto vectorKnowsSpec)

/-- 'kenninglaw09.VectorNumbers', WHERE WHAT IT READS IS OF BULK AT MOST 1048576: true; the input reads as it did. -/
def vectorNumbersUptoRow : OpenClaim := { program := "ytcedofkenfddkaadoor", sum := "f7d9aba1c2b31b4e21e029678b86751534d2ebec021a83df2d1288e62baa6132", func := "kenning/kenninglaw09.VectorNumbers", spec := "vectorNumbers", inPlace := ["internal/reflectlite.ValueOf", "(internal/reflectlite.Value).Type", "(internal/reflectlite.Value).IsNil", "internal/reflectlite.TypeOf", "(internal/reflectlite.Value).Elem", "(internal/reflectlite.Value).Set"], unfollowed := true, recurses := true, named := ["errors.errorType"], apart := false, laid := [("errors.errorType", laid_errors_errorType)], narrowed := true }
def VectorNumbersUptoSaid : Prop := vectorNumbersUptoRow.holds Tryd.pinned (OpenSpec.upto vectorNumbersSpec)

/-- 'kenninglaw09.VectorOrder', WHERE WHAT IT READS IS OF BULK AT MOST 1048576: true; the input reads as it did. -/
def vectorOrderUptoRow : OpenClaim := { program := "ytcedofkenfddkaadoor", sum := "f7d9aba1c2b31b4e21e029678b86751534d2ebec021a83df2d1288e62baa6132", func := "kenning/kenninglaw09.VectorOrder", spec := "vectorOrder", inPlace := ["internal/reflectlite.ValueOf", "(internal/reflectlite.Value).Type", "(internal/reflectlite.Value).IsNil", "internal/reflectlite.TypeOf", "(internal/reflectlite.Value).Elem", "(internal/reflectlite.Value).Set"], unfollowed := true, recurses := true, named := ["errors.errorType"], apart := false, laid := [("errors.errorType", laid_errors_errorType)], narrowed := true }
def VectorOrderUptoSaid : Prop := vectorOrderUptoRow.holds Tryd.pinned (OpenSpec.upto vectorOrderSpec)

/-- 'kenninglaw09.VectorChecks', WHERE WHAT IT READS IS OF BULK AT MOST 1048576: true; the input reads as it did. -/
def vectorChecksUptoRow : OpenClaim := { program := "ytcedofkenfddkaadoor", sum := "f7d9aba1c2b31b4e21e029678b86751534d2ebec021a83df2d1288e62baa6132", func := "kenning/kenninglaw09.VectorChecks", spec := "vectorChecks", inPlace := ["internal/reflectlite.ValueOf", "(internal/reflectlite.Value).Type", "(internal/reflectlite.Value).IsNil", "internal/reflectlite.TypeOf", "(internal/reflectlite.Value).Elem", "(internal/reflectlite.Value).Set"], unfollowed := true, recurses := true, named := ["errors.errorType"], apart := false, laid := [("errors.errorType", laid_errors_errorType)], narrowed := true }
def VectorChecksUptoSaid : Prop := vectorChecksUptoRow.holds Tryd.pinned (OpenSpec.upto vectorChecksSpec)

/-- 'kenninglaw08.JoinDenotes', WHERE WHAT IT READS IS OF BULK AT MOST 1048576: true; the input reads as it did. -/
def joinDenotesUptoRow : OpenClaim := { program := "ytcedofkenfddkaadoor", sum := "f7d9aba1c2b31b4e21e029678b86751534d2ebec021a83df2d1288e62baa6132", func := "kenning/kenninglaw08.JoinDenotes", spec := "joinDenotes", inPlace := ["internal/reflectlite.ValueOf", "(internal/reflectlite.Value).Type", "(internal/reflectlite.Value).IsNil", "internal/reflectlite.TypeOf", "(internal/reflectlite.Value).Elem", "(internal/reflectlite.Value).Set"], unfollowed := true, recurses := true, named := ["errors.errorType"], apart := false, laid := [("errors.errorType", laid_errors_errorType)], narrowed := true }
def JoinDenotesUptoSaid : Prop := joinDenotesUptoRow.holds Tryd.pinned (OpenSpec.upto joinDenotesSpec)

/-- 'kenninglaw09.VectorCanon', WHERE WHAT IT READS IS OF BULK AT MOST 1048576: true; the input reads as it did. -/
def vectorCanonUptoRow : OpenClaim := { program := "ytcedofkenfddkaadoor", sum := "f7d9aba1c2b31b4e21e029678b86751534d2ebec021a83df2d1288e62baa6132", func := "kenning/kenninglaw09.VectorCanon", spec := "vectorCanon", inPlace := ["internal/reflectlite.ValueOf", "(internal/reflectlite.Value).Type", "(internal/reflectlite.Value).IsNil", "internal/reflectlite.TypeOf", "(internal/reflectlite.Value).Elem", "(internal/reflectlite.Value).Set"], unfollowed := true, recurses := true, named := ["errors.errorType"], apart := false, laid := [("errors.errorType", laid_errors_errorType)], narrowed := true }
def VectorCanonUptoSaid : Prop := vectorCanonUptoRow.holds Tryd.pinned (OpenSpec.upto vectorCanonSpec)

/-- 'kenninglaw09.VectorKeeps', WHERE WHAT IT READS IS OF BULK AT MOST 1048576: true; the input reads as it did. -/
def vectorKeepsUptoRow : OpenClaim := { program := "ytcedofkenfddkaadoor", sum := "f7d9aba1c2b31b4e21e029678b86751534d2ebec021a83df2d1288e62baa6132", func := "kenning/kenninglaw09.VectorKeeps", spec := "vectorKeeps", inPlace := ["internal/reflectlite.ValueOf", "(internal/reflectlite.Value).Type", "(internal/reflectlite.Value).IsNil", "internal/reflectlite.TypeOf", "(internal/reflectlite.Value).Elem", "(internal/reflectlite.Value).Set"], unfollowed := true, recurses := true, named := ["errors.errorType"], apart := false, laid := [("errors.errorType", laid_errors_errorType)], narrowed := true }
def VectorKeepsUptoSaid : Prop := vectorKeepsUptoRow.holds Tryd.pinned (OpenSpec.upto vectorKeepsSpec)

end Rows
end Go.Proofs.YtcedofkenfddkaaDoor
