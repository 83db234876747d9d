/-
  No cell of these rows narrows 'for every input' (looked for: loops, veiled, ifaces, maps, wideKeys, modest, calm, conditions, laid).
  DERIVED. THE GIVEN ROWS OF THIS SEAT. 5 by the template 'for every input the law returns true; each argument reads behind the call as it read before'; 0 by the template 'total and deterministic' (their statements: YtjimggclhlnfbaaGreatTotals.lean).
  GIVEN WITH THE SEED: the statements are not yours to turn. If you find one false, say at which input.
  Laid BY PROGRAM, IN A SANDBOX (cutbox-rows.mjs): the forced cells as the released guide's own fill.sh prints them over the translation ae11e9af5dd18614… (all of the seat's roots in one cut). By AI agents, Wed Nov 11 2026. No macro, syntax, notation, axiom, sorry.
-/
import Derived.Test.YtjimggclhlnfbaaGreatChecked
import GoSem.Claim
import GoSem.ClaimJoined
import GoSem.ClaimMapViews
import Derived.JoinedTies
import Derived.KernelRfl
namespace Go.Proofs.YtjimggclhlnfbaaGreat
/- THE CELL 'sum', in the pinned program and in every row, IS THE sha256 OF THE DUMP (.gsa) THAT YtjimggclhlnfbaaGreatProg.lean LOADS. Nothing in Lean hashes anything: it is a label: what it is worth is what the hold of that sum in a sandbox is worth. -/
noncomputable def Tryz.pinned : Pinned := { name := "ytjimggclhlnfbaagreat", sum := "ae11e9af5dd18614bb38e4b8282edc1f130874820bde9b2b021dbfaa83a26224", checked := Tryz.checked }
namespace Rows
def none {H : Type} : Left H := { results := [], args := [] }

/-- 'kenninglaw12.AtomsCut': WHATEVER THE INPUT: true; the input reads as it did. -/
def atomsCutSpec : ChangeSpec := { name := "atomsCut", fn := fun _ => fun
  | [d] => { results := [.lit (.bool true)], args := [d] }
  | _ => none }
def atomsCutRow : OpenClaim := { program := "ytjimggclhlnfbaagreat", sum := "ae11e9af5dd18614bb38e4b8282edc1f130874820bde9b2b021dbfaa83a26224", func := "kenning/kenninglaw12.AtomsCut", spec := "atomsCut", inPlace := ["slices.overlaps[uint64]", "slices.overlaps[kenning/api.Fragment]"], unfollowed := true, recurses := true, apart := false }
def AtomsCutSaid : Prop := atomsCutRow.holds Tryz.pinned (OpenSpec.ofChange atomsCutSpec)

/-- ITS FALSE NEIGHBOUR: 'it returns false'. Refute it at one input. -/
def atomsCutWrong : ChangeSpec := { name := "atomsCut", fn := fun _ => fun
  | [d] => { results := [.lit (.bool false)], args := [d] }
  | _ => none }
def AtomsCutWrongFalsely : Prop := atomsCutRow.holds Tryz.pinned (OpenSpec.ofChange atomsCutWrong)

/-- 'kenninglaw12.AtomsAgain': WHATEVER THE INPUT: true; the input reads as it did. -/
def atomsAgainSpec : ChangeSpec := { name := "atomsAgain", fn := fun _ => fun
  | [d] => { results := [.lit (.bool true)], args := [d] }
  | _ => none }
def atomsAgainRow : OpenClaim := { program := "ytjimggclhlnfbaagreat", sum := "ae11e9af5dd18614bb38e4b8282edc1f130874820bde9b2b021dbfaa83a26224", func := "kenning/kenninglaw12.AtomsAgain", spec := "atomsAgain", inPlace := ["slices.overlaps[uint64]", "slices.overlaps[kenning/api.Fragment]"], unfollowed := true, recurses := true, apart := false }
def AtomsAgainSaid : Prop := atomsAgainRow.holds Tryz.pinned (OpenSpec.ofChange atomsAgainSpec)

/-- ITS FALSE NEIGHBOUR: 'it returns false'. Refute it at one input. -/
def atomsAgainWrong : ChangeSpec := { name := "atomsAgain", fn := fun _ => fun
  | [d] => { results := [.lit (.bool false)], args := [d] }
  | _ => none }
def AtomsAgainWrongFalsely : Prop := atomsAgainRow.holds Tryz.pinned (OpenSpec.ofChange atomsAgainWrong)

/-- 'kenninglaw12.AtomsKeep': WHATEVER THE INPUT: true; the input reads as it did. -/
def atomsKeepSpec : ChangeSpec := { name := "atomsKeep", fn := fun _ => fun
  | [d] => { results := [.lit (.bool true)], args := [d] }
  | _ => none }
def atomsKeepRow : OpenClaim := { program := "ytjimggclhlnfbaagreat", sum := "ae11e9af5dd18614bb38e4b8282edc1f130874820bde9b2b021dbfaa83a26224", func := "kenning/kenninglaw12.AtomsKeep", spec := "atomsKeep", inPlace := ["slices.overlaps[uint64]", "slices.overlaps[kenning/api.Fragment]"], unfollowed := true, recurses := true, apart := false }
def AtomsKeepSaid : Prop := atomsKeepRow.holds Tryz.pinned (OpenSpec.ofChange atomsKeepSpec)

/-- ITS FALSE NEIGHBOUR: 'it returns false'. Refute it at one input. -/
def atomsKeepWrong : ChangeSpec := { name := "atomsKeep", fn := fun _ => fun
  | [d] => { results := [.lit (.bool false)], args := [d] }
  | _ => none }
def AtomsKeepWrongFalsely : Prop := atomsKeepRow.holds Tryz.pinned (OpenSpec.ofChange atomsKeepWrong)

/-- 'kenninglaw12.AtomsRefine': WHATEVER THE INPUT: true; the input reads as it did. -/
def atomsRefineSpec : ChangeSpec := { name := "atomsRefine", fn := fun _ => fun
  | [d1, d2] => { results := [.lit (.bool true)], args := [d1, d2] }
  | _ => none }
def atomsRefineRow : OpenClaim := { program := "ytjimggclhlnfbaagreat", sum := "ae11e9af5dd18614bb38e4b8282edc1f130874820bde9b2b021dbfaa83a26224", func := "kenning/kenninglaw12.AtomsRefine", spec := "atomsRefine", inPlace := ["slices.overlaps[uint64]", "slices.overlaps[kenning/api.Fragment]"], unfollowed := true, recurses := true, apart := false }
def AtomsRefineSaid : Prop := atomsRefineRow.holds Tryz.pinned (OpenSpec.ofChange atomsRefineSpec)

/-- ITS FALSE NEIGHBOUR: 'it returns false'. Refute it at one input. -/
def atomsRefineWrong : ChangeSpec := { name := "atomsRefine", fn := fun _ => fun
  | [d1, d2] => { results := [.lit (.bool false)], args := [d1, d2] }
  | _ => none }
def AtomsRefineWrongFalsely : Prop := atomsRefineRow.holds Tryz.pinned (OpenSpec.ofChange atomsRefineWrong)

/-- 'kenninglaw12.AtomsGroup': WHATEVER THE INPUT: true; the input reads as it did. -/
def atomsGroupSpec : ChangeSpec := { name := "atomsGroup", fn := fun _ => fun
  | [d1, d2] => { results := [.lit (.bool true)], args := [d1, d2] }
  | _ => none }
def atomsGroupRow : OpenClaim := { program := "ytjimggclhlnfbaagreat", sum := "ae11e9af5dd18614bb38e4b8282edc1f130874820bde9b2b021dbfaa83a26224", func := "kenning/kenninglaw12.AtomsGroup", spec := "atomsGroup", inPlace := ["slices.overlaps[uint64]", "slices.overlaps[kenning/api.Fragment]"], unfollowed := true, recurses := true, apart := false }
def AtomsGroupSaid : Prop := atomsGroupRow.holds Tryz.pinned (OpenSpec.ofChange atomsGroupSpec)

/-- ITS FALSE NEIGHBOUR: 'it returns false'. Refute it at one input. -/
def atomsGroupWrong : ChangeSpec := { name := "atomsGroup", fn := fun _ => fun
  | [d1, d2] => { results := [.lit (.bool false)], args := [d1, d2] }
  | _ => none }
def AtomsGroupWrongFalsely : Prop := atomsGroupRow.holds Tryz.pinned (OpenSpec.ofChange atomsGroupWrong)

/- THE SECOND FORM. 'bulk': how many values and letters a reading holds, each counted each time it is reached (what is shared counts as often as it is met; a slice's spare places count too). A statement '..UptoSaid' is the law's where the arguments, and the package variables that the reading takes, are together of bulk at most 1048576: NARROWER than '..Said'. Prove '..Said' where nothing that the law and all that it calls make is longer than what came in: it says more and counts as full. Else prove '..UptoSaid'. A law counts once. -/
mutual
def uptoBulk {H : Type} : DataW H → Nat
  | .lit (.string bytes) => bytes.length + 1
  | .lit _ => 1
  | .nil => 1
  | .ptr d => uptoBulk d + 1
  | .slice elems spare => uptoBulkAll elems + uptoBulkAll spare + 1
  | .agg parts => uptoBulkAll parts + 1
  | .iface _ d => uptoBulk d + 1
  | .map entries => uptoBulkEntries entries + 1
  | .held _ => 1
def uptoBulkAll {H : Type} : List (DataW H) → Nat
  | [] => 0
  | d :: r => uptoBulk d + uptoBulkAll r
def uptoBulkEntries {H : Type} : List (Lit × DataW H) → Nat
  | [] => 0
  | x :: r => uptoBulkEntry x + uptoBulkEntries r
def uptoBulkEntry {H : Type} : Lit × DataW H → Nat
  | (.string bytes, d) => bytes.length + uptoBulk d + 1
  | (_, d) => uptoBulk d + 1
 end
def uptoSmall : (H : Type) → List (DataW H) → Bool := fun _ ds => decide (uptoBulkAll ds ≤ 1048576)
def OpenSpec.upto (s : _root_.Go.ChangeSpec) : _root_.Go.OpenSpec := { _root_.Go.OpenSpec.ofChange s with cond := some uptoSmall }

/-- 'kenninglaw12.AtomsCut', WHERE WHAT IT READS IS OF BULK AT MOST 1048576: true; the input reads as it did. -/
def atomsCutUptoRow : OpenClaim := { program := "ytjimggclhlnfbaagreat", sum := "ae11e9af5dd18614bb38e4b8282edc1f130874820bde9b2b021dbfaa83a26224", func := "kenning/kenninglaw12.AtomsCut", spec := "atomsCut", inPlace := ["slices.overlaps[uint64]", "slices.overlaps[kenning/api.Fragment]"], unfollowed := true, recurses := true, apart := false, narrowed := true }
def AtomsCutUptoSaid : Prop := atomsCutUptoRow.holds Tryz.pinned (OpenSpec.upto atomsCutSpec)

/-- 'kenninglaw12.AtomsAgain', WHERE WHAT IT READS IS OF BULK AT MOST 1048576: true; the input reads as it did. -/
def atomsAgainUptoRow : OpenClaim := { program := "ytjimggclhlnfbaagreat", sum := "ae11e9af5dd18614bb38e4b8282edc1f130874820bde9b2b021dbfaa83a26224", func := "kenning/kenninglaw12.AtomsAgain", spec := "atomsAgain", inPlace := ["slices.overlaps[uint64]", "slices.overlaps[kenning/api.Fragment]"], unfollowed := true, recurses := true, apart := false, narrowed := true }
def AtomsAgainUptoSaid : Prop := atomsAgainUptoRow.holds Tryz.pinned (OpenSpec.upto atomsAgainSpec)

/-- 'kenninglaw12.AtomsKeep', WHERE WHAT IT READS IS OF BULK AT MOST 1048576: true; the input reads as it did. -/
def atomsKeepUptoRow : OpenClaim := { program := "ytjimggclhlnfbaagreat", sum := "ae11e9af5dd18614bb38e4b8282edc1f130874820bde9b2b021dbfaa83a26224", func := "kenning/kenninglaw12.AtomsKeep", spec := "atomsKeep", inPlace := ["slices.overlaps[uint64]", "slices.overlaps[kenning/api.Fragment]"], unfollowed := true, recurses := true, apart := false, narrowed := true }
def AtomsKeepUptoSaid : Prop := atomsKeepUptoRow.holds Tryz.pinned (OpenSpec.upto atomsKeepSpec)

/-- 'kenninglaw12.AtomsRefine', WHERE WHAT IT READS IS OF BULK AT MOST 1048576: true; the input reads as it did. -/
def atomsRefineUptoRow : OpenClaim := { program := "ytjimggclhlnfbaagreat", sum := "ae11e9af5dd18614bb38e4b8282edc1f130874820bde9b2b021dbfaa83a26224", func := "kenning/kenninglaw12.AtomsRefine", spec := "atomsRefine", inPlace := ["slices.overlaps[uint64]", "slices.overlaps[kenning/api.Fragment]"], unfollowed := true, recurses := true, apart := false, narrowed := true }
def AtomsRefineUptoSaid : Prop := atomsRefineUptoRow.holds Tryz.pinned (OpenSpec.upto atomsRefineSpec)

/-- 'kenninglaw12.AtomsGroup', WHERE WHAT IT READS IS OF BULK AT MOST 1048576: true; the input reads as it did. -/
def atomsGroupUptoRow : OpenClaim := { program := "ytjimggclhlnfbaagreat", sum := "ae11e9af5dd18614bb38e4b8282edc1f130874820bde9b2b021dbfaa83a26224", func := "kenning/kenninglaw12.AtomsGroup", spec := "atomsGroup", inPlace := ["slices.overlaps[uint64]", "slices.overlaps[kenning/api.Fragment]"], unfollowed := true, recurses := true, apart := false, narrowed := true }
def AtomsGroupUptoSaid : Prop := atomsGroupUptoRow.holds Tryz.pinned (OpenSpec.upto atomsGroupSpec)

end Rows
end Go.Proofs.YtjimggclhlnfbaaGreat
