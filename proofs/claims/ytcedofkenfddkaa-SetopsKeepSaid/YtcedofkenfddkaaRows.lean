/-
  No cell of these rows narrows 'for every input' (looked for: loops, veiled, ifaces, maps, wideKeys, modest, calm, conditions, laid).
  DERIVED. THE GIVEN ROWS OF THIS SEAT. 15 by the template 'for every input the law returns true; each argument reads behind the call as it read before'; 0 by the template 'total and deterministic' (their statements: YtcedofkenfddkaaTotals.lean).
  GIVEN WITH THE SEED: the statements are not yours to turn. If you find one false, say at which input.
  Laid BY PROGRAM, IN A SANDBOX (cutbox-rows.mjs): the forced cells as the released guide's own fill.sh prints them over the translation 0d077e227faafbcf… (all of the seat's roots in one cut). By AI agents, Wed Nov 11 2026. No macro, syntax, notation, axiom, sorry.
-/
import Derived.Test.YtcedofkenfddkaaChecked
import GoSem.Claim
import GoSem.ClaimJoined
import GoSem.ClaimMapViews
import Derived.JoinedTies
import Derived.KernelRfl
namespace Go.Proofs.Ytcedofkenfddkaa
/- THE CELL 'sum', in the pinned program and in every row, IS THE sha256 OF THE DUMP (.gsa) THAT YtcedofkenfddkaaProg.lean LOADS. Nothing in Lean hashes anything: it is a label: what it is worth is what the hold of that sum in a sandbox is worth. -/
noncomputable def Try.pinned : Pinned := { name := "ytcedofkenfddkaa", sum := "0d077e227faafbcf2ac09998b62eff78e8c07d5bb187c11fb6f10ff62548f076", checked := Try.checked }
namespace Rows
def none {H : Type} : Left H := { results := [], args := [] }

/-- 'kenninglaw05.SetopsMatch': WHATEVER THE INPUT: true; the input reads as it did. -/
def setopsMatchSpec : ChangeSpec := { name := "setopsMatch", fn := fun _ => fun
  | [d1, d2] => { results := [.lit (.bool true)], args := [d1, d2] }
  | _ => none }
def setopsMatchRow : OpenClaim := { program := "ytcedofkenfddkaa", sum := "0d077e227faafbcf2ac09998b62eff78e8c07d5bb187c11fb6f10ff62548f076", func := "kenning/kenninglaw05.SetopsMatch", spec := "setopsMatch", unfollowed := true, recurses := true, apart := false }
def SetopsMatchSaid : Prop := setopsMatchRow.holds Try.pinned (OpenSpec.ofChange setopsMatchSpec)

/-- ITS FALSE NEIGHBOUR: 'it returns false'. Refute it at one input. -/
def setopsMatchWrong : ChangeSpec := { name := "setopsMatch", fn := fun _ => fun
  | [d1, d2] => { results := [.lit (.bool false)], args := [d1, d2] }
  | _ => none }
def SetopsMatchWrongFalsely : Prop := setopsMatchRow.holds Try.pinned (OpenSpec.ofChange setopsMatchWrong)

/-- 'kenninglaw05.SetopsNot': WHATEVER THE INPUT: true; the input reads as it did. -/
def setopsNotSpec : ChangeSpec := { name := "setopsNot", fn := fun _ => fun
  | [d1, d2] => { results := [.lit (.bool true)], args := [d1, d2] }
  | _ => none }
def setopsNotRow : OpenClaim := { program := "ytcedofkenfddkaa", sum := "0d077e227faafbcf2ac09998b62eff78e8c07d5bb187c11fb6f10ff62548f076", func := "kenning/kenninglaw05.SetopsNot", spec := "setopsNot", unfollowed := true, recurses := true, apart := false }
def SetopsNotSaid : Prop := setopsNotRow.holds Try.pinned (OpenSpec.ofChange setopsNotSpec)

/-- ITS FALSE NEIGHBOUR: 'it returns false'. Refute it at one input. -/
def setopsNotWrong : ChangeSpec := { name := "setopsNot", fn := fun _ => fun
  | [d1, d2] => { results := [.lit (.bool false)], args := [d1, d2] }
  | _ => none }
def SetopsNotWrongFalsely : Prop := setopsNotRow.holds Try.pinned (OpenSpec.ofChange setopsNotWrong)

/-- 'kenninglaw05.SetopsRelate': WHATEVER THE INPUT: true; the input reads as it did. -/
def setopsRelateSpec : ChangeSpec := { name := "setopsRelate", fn := fun _ => fun
  | [d1, d2] => { results := [.lit (.bool true)], args := [d1, d2] }
  | _ => none }
def setopsRelateRow : OpenClaim := { program := "ytcedofkenfddkaa", sum := "0d077e227faafbcf2ac09998b62eff78e8c07d5bb187c11fb6f10ff62548f076", func := "kenning/kenninglaw05.SetopsRelate", spec := "setopsRelate", unfollowed := true, recurses := true, apart := false }
def SetopsRelateSaid : Prop := setopsRelateRow.holds Try.pinned (OpenSpec.ofChange setopsRelateSpec)

/-- ITS FALSE NEIGHBOUR: 'it returns false'. Refute it at one input. -/
def setopsRelateWrong : ChangeSpec := { name := "setopsRelate", fn := fun _ => fun
  | [d1, d2] => { results := [.lit (.bool false)], args := [d1, d2] }
  | _ => none }
def SetopsRelateWrongFalsely : Prop := setopsRelateRow.holds Try.pinned (OpenSpec.ofChange setopsRelateWrong)

/-- 'kenninglaw05.SetopsAlgebra': WHATEVER THE INPUT: true; the input reads as it did. -/
def setopsAlgebraSpec : ChangeSpec := { name := "setopsAlgebra", fn := fun _ => fun
  | [d1, d2, d3] => { results := [.lit (.bool true)], args := [d1, d2, d3] }
  | _ => none }
def setopsAlgebraRow : OpenClaim := { program := "ytcedofkenfddkaa", sum := "0d077e227faafbcf2ac09998b62eff78e8c07d5bb187c11fb6f10ff62548f076", func := "kenning/kenninglaw05.SetopsAlgebra", spec := "setopsAlgebra", unfollowed := true, recurses := true, apart := false }
def SetopsAlgebraSaid : Prop := setopsAlgebraRow.holds Try.pinned (OpenSpec.ofChange setopsAlgebraSpec)

/-- ITS FALSE NEIGHBOUR: 'it returns false'. Refute it at one input. -/
def setopsAlgebraWrong : ChangeSpec := { name := "setopsAlgebra", fn := fun _ => fun
  | [d1, d2, d3] => { results := [.lit (.bool false)], args := [d1, d2, d3] }
  | _ => none }
def SetopsAlgebraWrongFalsely : Prop := setopsAlgebraRow.holds Try.pinned (OpenSpec.ofChange setopsAlgebraWrong)

/-- 'kenninglaw05.SetopsKeep': WHATEVER THE INPUT: true; the input reads as it did. -/
def setopsKeepSpec : ChangeSpec := { name := "setopsKeep", fn := fun _ => fun
  | [d1, d2] => { results := [.lit (.bool true)], args := [d1, d2] }
  | _ => none }
def setopsKeepRow : OpenClaim := { program := "ytcedofkenfddkaa", sum := "0d077e227faafbcf2ac09998b62eff78e8c07d5bb187c11fb6f10ff62548f076", func := "kenning/kenninglaw05.SetopsKeep", spec := "setopsKeep", unfollowed := true, recurses := true, apart := false }
def SetopsKeepSaid : Prop := setopsKeepRow.holds Try.pinned (OpenSpec.ofChange setopsKeepSpec)

/-- ITS FALSE NEIGHBOUR: 'it returns false'. Refute it at one input. -/
def setopsKeepWrong : ChangeSpec := { name := "setopsKeep", fn := fun _ => fun
  | [d1, d2] => { results := [.lit (.bool false)], args := [d1, d2] }
  | _ => none }
def SetopsKeepWrongFalsely : Prop := setopsKeepRow.holds Try.pinned (OpenSpec.ofChange setopsKeepWrong)

/-- 'kenninglaw08.JoinNext': WHATEVER THE INPUT: true; the input reads as it did. -/
def joinNextSpec : ChangeSpec := { name := "joinNext", fn := fun _ => fun
  | [d] => { results := [.lit (.bool true)], args := [d] }
  | _ => none }
def joinNextRow : OpenClaim := { program := "ytcedofkenfddkaa", sum := "0d077e227faafbcf2ac09998b62eff78e8c07d5bb187c11fb6f10ff62548f076", func := "kenning/kenninglaw08.JoinNext", spec := "joinNext", unfollowed := true, recurses := true, apart := false }
def JoinNextSaid : Prop := joinNextRow.holds Try.pinned (OpenSpec.ofChange joinNextSpec)

/-- ITS FALSE NEIGHBOUR: 'it returns false'. Refute it at one input. -/
def joinNextWrong : ChangeSpec := { name := "joinNext", fn := fun _ => fun
  | [d] => { results := [.lit (.bool false)], args := [d] }
  | _ => none }
def JoinNextWrongFalsely : Prop := joinNextRow.holds Try.pinned (OpenSpec.ofChange joinNextWrong)

/-- 'kenninglaw08.JoinSubset': WHATEVER THE INPUT: true; the input reads as it did. -/
def joinSubsetSpec : ChangeSpec := { name := "joinSubset", fn := fun _ => fun
  | [d1, d2] => { results := [.lit (.bool true)], args := [d1, d2] }
  | _ => none }
def joinSubsetRow : OpenClaim := { program := "ytcedofkenfddkaa", sum := "0d077e227faafbcf2ac09998b62eff78e8c07d5bb187c11fb6f10ff62548f076", func := "kenning/kenninglaw08.JoinSubset", spec := "joinSubset", unfollowed := true, recurses := true, apart := false }
def JoinSubsetSaid : Prop := joinSubsetRow.holds Try.pinned (OpenSpec.ofChange joinSubsetSpec)

/-- ITS FALSE NEIGHBOUR: 'it returns false'. Refute it at one input. -/
def joinSubsetWrong : ChangeSpec := { name := "joinSubset", fn := fun _ => fun
  | [d1, d2] => { results := [.lit (.bool false)], args := [d1, d2] }
  | _ => none }
def JoinSubsetWrongFalsely : Prop := joinSubsetRow.holds Try.pinned (OpenSpec.ofChange joinSubsetWrong)

/-- 'kenninglaw08.JoinMatches': WHATEVER THE INPUT: true; the input reads as it did. -/
def joinMatchesSpec : ChangeSpec := { name := "joinMatches", fn := fun _ => fun
  | [d1, d2] => { results := [.lit (.bool true)], args := [d1, d2] }
  | _ => none }
def joinMatchesRow : OpenClaim := { program := "ytcedofkenfddkaa", sum := "0d077e227faafbcf2ac09998b62eff78e8c07d5bb187c11fb6f10ff62548f076", func := "kenning/kenninglaw08.JoinMatches", spec := "joinMatches", unfollowed := true, recurses := true, apart := false }
def JoinMatchesSaid : Prop := joinMatchesRow.holds Try.pinned (OpenSpec.ofChange joinMatchesSpec)

/-- ITS FALSE NEIGHBOUR: 'it returns false'. Refute it at one input. -/
def joinMatchesWrong : ChangeSpec := { name := "joinMatches", fn := fun _ => fun
  | [d1, d2] => { results := [.lit (.bool false)], args := [d1, d2] }
  | _ => none }
def JoinMatchesWrongFalsely : Prop := joinMatchesRow.holds Try.pinned (OpenSpec.ofChange joinMatchesWrong)

/-- 'kenninglaw08.JoinAlgebra': WHATEVER THE INPUT: true; the input reads as it did. -/
def joinAlgebraSpec : ChangeSpec := { name := "joinAlgebra", fn := fun _ => fun
  | [d1, d2, d3] => { results := [.lit (.bool true)], args := [d1, d2, d3] }
  | _ => none }
def joinAlgebraRow : OpenClaim := { program := "ytcedofkenfddkaa", sum := "0d077e227faafbcf2ac09998b62eff78e8c07d5bb187c11fb6f10ff62548f076", func := "kenning/kenninglaw08.JoinAlgebra", spec := "joinAlgebra", unfollowed := true, recurses := true, apart := false }
def JoinAlgebraSaid : Prop := joinAlgebraRow.holds Try.pinned (OpenSpec.ofChange joinAlgebraSpec)

/-- ITS FALSE NEIGHBOUR: 'it returns false'. Refute it at one input. -/
def joinAlgebraWrong : ChangeSpec := { name := "joinAlgebra", fn := fun _ => fun
  | [d1, d2, d3] => { results := [.lit (.bool false)], args := [d1, d2, d3] }
  | _ => none }
def JoinAlgebraWrongFalsely : Prop := joinAlgebraRow.holds Try.pinned (OpenSpec.ofChange joinAlgebraWrong)

/-- 'kenninglaw08.JoinAdds': WHATEVER THE INPUT: true; the input reads as it did. -/
def joinAddsSpec : ChangeSpec := { name := "joinAdds", fn := fun _ => fun
  | [d1, d2] => { results := [.lit (.bool true)], args := [d1, d2] }
  | _ => none }
def joinAddsRow : OpenClaim := { program := "ytcedofkenfddkaa", sum := "0d077e227faafbcf2ac09998b62eff78e8c07d5bb187c11fb6f10ff62548f076", func := "kenning/kenninglaw08.JoinAdds", spec := "joinAdds", unfollowed := true, recurses := true, apart := false }
def JoinAddsSaid : Prop := joinAddsRow.holds Try.pinned (OpenSpec.ofChange joinAddsSpec)

/-- ITS FALSE NEIGHBOUR: 'it returns false'. Refute it at one input. -/
def joinAddsWrong : ChangeSpec := { name := "joinAdds", fn := fun _ => fun
  | [d1, d2] => { results := [.lit (.bool false)], args := [d1, d2] }
  | _ => none }
def JoinAddsWrongFalsely : Prop := joinAddsRow.holds Try.pinned (OpenSpec.ofChange joinAddsWrong)

/-- 'kenninglaw10.LatticeMatches': WHATEVER THE INPUT: true; the input reads as it did. -/
def latticeMatchesSpec : ChangeSpec := { name := "latticeMatches", fn := fun _ => fun
  | [d1, d2] => { results := [.lit (.bool true)], args := [d1, d2] }
  | _ => none }
def latticeMatchesRow : OpenClaim := { program := "ytcedofkenfddkaa", sum := "0d077e227faafbcf2ac09998b62eff78e8c07d5bb187c11fb6f10ff62548f076", func := "kenning/kenninglaw10.LatticeMatches", spec := "latticeMatches", inPlace := ["slices.overlaps[uint64]"], unfollowed := true, recurses := true, apart := false }
def LatticeMatchesSaid : Prop := latticeMatchesRow.holds Try.pinned (OpenSpec.ofChange latticeMatchesSpec)

/-- ITS FALSE NEIGHBOUR: 'it returns false'. Refute it at one input. -/
def latticeMatchesWrong : ChangeSpec := { name := "latticeMatches", fn := fun _ => fun
  | [d1, d2] => { results := [.lit (.bool false)], args := [d1, d2] }
  | _ => none }
def LatticeMatchesWrongFalsely : Prop := latticeMatchesRow.holds Try.pinned (OpenSpec.ofChange latticeMatchesWrong)

/-- 'kenninglaw10.LatticeSubset': WHATEVER THE INPUT: true; the input reads as it did. -/
def latticeSubsetSpec : ChangeSpec := { name := "latticeSubset", fn := fun _ => fun
  | [d1, d2] => { results := [.lit (.bool true)], args := [d1, d2] }
  | _ => none }
def latticeSubsetRow : OpenClaim := { program := "ytcedofkenfddkaa", sum := "0d077e227faafbcf2ac09998b62eff78e8c07d5bb187c11fb6f10ff62548f076", func := "kenning/kenninglaw10.LatticeSubset", spec := "latticeSubset", inPlace := ["slices.overlaps[uint64]"], unfollowed := true, recurses := true, apart := false }
def LatticeSubsetSaid : Prop := latticeSubsetRow.holds Try.pinned (OpenSpec.ofChange latticeSubsetSpec)

/-- ITS FALSE NEIGHBOUR: 'it returns false'. Refute it at one input. -/
def latticeSubsetWrong : ChangeSpec := { name := "latticeSubset", fn := fun _ => fun
  | [d1, d2] => { results := [.lit (.bool false)], args := [d1, d2] }
  | _ => none }
def LatticeSubsetWrongFalsely : Prop := latticeSubsetRow.holds Try.pinned (OpenSpec.ofChange latticeSubsetWrong)

/-- 'kenninglaw10.LatticeCounts': WHATEVER THE INPUT: true; the input reads as it did. -/
def latticeCountsSpec : ChangeSpec := { name := "latticeCounts", fn := fun _ => fun
  | [d1, d2] => { results := [.lit (.bool true)], args := [d1, d2] }
  | _ => none }
def latticeCountsRow : OpenClaim := { program := "ytcedofkenfddkaa", sum := "0d077e227faafbcf2ac09998b62eff78e8c07d5bb187c11fb6f10ff62548f076", func := "kenning/kenninglaw10.LatticeCounts", spec := "latticeCounts", inPlace := ["slices.overlaps[uint64]"], unfollowed := true, recurses := true, apart := false }
def LatticeCountsSaid : Prop := latticeCountsRow.holds Try.pinned (OpenSpec.ofChange latticeCountsSpec)

/-- ITS FALSE NEIGHBOUR: 'it returns false'. Refute it at one input. -/
def latticeCountsWrong : ChangeSpec := { name := "latticeCounts", fn := fun _ => fun
  | [d1, d2] => { results := [.lit (.bool false)], args := [d1, d2] }
  | _ => none }
def LatticeCountsWrongFalsely : Prop := latticeCountsRow.holds Try.pinned (OpenSpec.ofChange latticeCountsWrong)

/-- 'kenninglaw10.LatticeAlgebra': WHATEVER THE INPUT: true; the input reads as it did. -/
def latticeAlgebraSpec : ChangeSpec := { name := "latticeAlgebra", fn := fun _ => fun
  | [d1, d2, d3] => { results := [.lit (.bool true)], args := [d1, d2, d3] }
  | _ => none }
def latticeAlgebraRow : OpenClaim := { program := "ytcedofkenfddkaa", sum := "0d077e227faafbcf2ac09998b62eff78e8c07d5bb187c11fb6f10ff62548f076", func := "kenning/kenninglaw10.LatticeAlgebra", spec := "latticeAlgebra", inPlace := ["slices.overlaps[uint64]"], unfollowed := true, recurses := true, apart := false }
def LatticeAlgebraSaid : Prop := latticeAlgebraRow.holds Try.pinned (OpenSpec.ofChange latticeAlgebraSpec)

/-- ITS FALSE NEIGHBOUR: 'it returns false'. Refute it at one input. -/
def latticeAlgebraWrong : ChangeSpec := { name := "latticeAlgebra", fn := fun _ => fun
  | [d1, d2, d3] => { results := [.lit (.bool false)], args := [d1, d2, d3] }
  | _ => none }
def LatticeAlgebraWrongFalsely : Prop := latticeAlgebraRow.holds Try.pinned (OpenSpec.ofChange latticeAlgebraWrong)

/-- 'kenninglaw10.LatticeAdds': WHATEVER THE INPUT: true; the input reads as it did. -/
def latticeAddsSpec : ChangeSpec := { name := "latticeAdds", fn := fun _ => fun
  | [d1, d2, d3] => { results := [.lit (.bool true)], args := [d1, d2, d3] }
  | _ => none }
def latticeAddsRow : OpenClaim := { program := "ytcedofkenfddkaa", sum := "0d077e227faafbcf2ac09998b62eff78e8c07d5bb187c11fb6f10ff62548f076", func := "kenning/kenninglaw10.LatticeAdds", spec := "latticeAdds", inPlace := ["slices.overlaps[uint64]"], unfollowed := true, recurses := true, apart := false }
def LatticeAddsSaid : Prop := latticeAddsRow.holds Try.pinned (OpenSpec.ofChange latticeAddsSpec)

/-- ITS FALSE NEIGHBOUR: 'it returns false'. Refute it at one input. -/
def latticeAddsWrong : ChangeSpec := { name := "latticeAdds", fn := fun _ => fun
  | [d1, d2, d3] => { results := [.lit (.bool false)], args := [d1, d2, d3] }
  | _ => none }
def LatticeAddsWrongFalsely : Prop := latticeAddsRow.holds Try.pinned (OpenSpec.ofChange latticeAddsWrong)

/- THE SECOND FORM. 'bulk': how many values and letters a reading holds, each counted each time it is reached (what is shared counts as often as it is met; a slice's spare places count too). A statement '..UptoSaid' is the law's where the arguments, and the package variables that the reading takes, are together of bulk at most 1048576: NARROWER than '..Said'. Prove '..Said' where nothing that the law and all that it calls make is longer than what came in: it says more and counts as full. Else prove '..UptoSaid'. A law counts once. -/
mutual
def uptoBulk {H : Type} : DataW H → Nat
  | .lit (.string bytes) => bytes.length + 1
  | .lit _ => 1
  | .nil => 1
  | .ptr d => uptoBulk d + 1
  | .slice elems spare => uptoBulkAll elems + uptoBulkAll spare + 1
  | .agg parts => uptoBulkAll parts + 1
  | .iface _ d => uptoBulk d + 1
  | .map entries => uptoBulkEntries entries + 1
  | .held _ => 1
def uptoBulkAll {H : Type} : List (DataW H) → Nat
  | [] => 0
  | d :: r => uptoBulk d + uptoBulkAll r
def uptoBulkEntries {H : Type} : List (Lit × DataW H) → Nat
  | [] => 0
  | x :: r => uptoBulkEntry x + uptoBulkEntries r
def uptoBulkEntry {H : Type} : Lit × DataW H → Nat
  | (.string bytes, d) => bytes.length + uptoBulk d + 1
  | (_, d) => uptoBulk d + 1
 end
def uptoSmall : (H : Type) → List (DataW H) → Bool := fun _ ds => decide (uptoBulkAll ds ≤ 1048576)
def OpenSpec.upto (s : _root_.Go.ChangeSpec) : _root_.Go.OpenSpec := { _root_.Go.OpenSpec.ofChange s with cond := some uptoSmall }

/-- 'kenninglaw05.SetopsMatch', WHERE WHAT IT READS IS OF BULK AT MOST 1048576: true; the input reads as it did. -/
def setopsMatchUptoRow : OpenClaim := { program := "ytcedofkenfddkaa", sum := "0d077e227faafbcf2ac09998b62eff78e8c07d5bb187c11fb6f10ff62548f076", func := "kenning/kenninglaw05.SetopsMatch", spec := "setopsMatch", unfollowed := true, recurses := true, apart := false, narrowed := true }
def SetopsMatchUptoSaid : Prop := setopsMatchUptoRow.holds Try.pinned (OpenSpec.upto setopsMatchSpec)

/-- 'kenninglaw05.SetopsNot', WHERE WHAT IT READS IS OF BULK AT MOST 1048576: true; the input reads as it did. -/
def setopsNotUptoRow : OpenClaim := { program := "ytcedofkenfddkaa", sum := "0d077e227faafbcf2ac09998b62eff78e8c07d5bb187c11fb6f10ff62548f076", func := "kenning/kenninglaw05.SetopsNot", spec := "setopsNot", unfollowed := true, recurses := true, apart := false, narrowed := true }
def SetopsNotUptoSaid : Prop := setopsNotUptoRow.holds Try.pinned (OpenSpec.upto setopsNotSpec)

/-- 'kenninglaw05.SetopsRelate', WHERE WHAT IT READS IS OF BULK AT MOST 1048576: true; the input reads as it did. -/
def setopsRelateUptoRow : OpenClaim := { program := "ytcedofkenfddkaa", sum := "0d077e227faafbcf2ac09998b62eff78e8c07d5bb187c11fb6f10ff62548f076", func := "kenning/kenninglaw05.SetopsRelate", spec := "setopsRelate", unfollowed := true, recurses := true, apart := false, narrowed := true }
def SetopsRelateUptoSaid : Prop := setopsRelateUptoRow.holds Try.pinned (OpenSpec.upto setopsRelateSpec)

/-- 'kenninglaw05.SetopsAlgebra', WHERE WHAT IT READS IS OF BULK AT MOST 1048576: true; the input reads as it did. -/
def setopsAlgebraUptoRow : OpenClaim := { program := "ytcedofkenfddkaa", sum := "0d077e227faafbcf2ac09998b62eff78e8c07d5bb187c11fb6f10ff62548f076", func := "kenning/kenninglaw05.SetopsAlgebra", spec := "setopsAlgebra", unfollowed := true, recurses := true, apart := false, narrowed := true }
def SetopsAlgebraUptoSaid : Prop := setopsAlgebraUptoRow.holds Try.pinned (OpenSpec.upto setopsAlgebraSpec)

/-- 'kenninglaw05.SetopsKeep', WHERE WHAT IT READS IS OF BULK AT MOST 1048576: true; the input reads as it did. -/
def setopsKeepUptoRow : OpenClaim := { program := "ytcedofkenfddkaa", sum := "0d077e227faafbcf2ac09998b62eff78e8c07d5bb187c11fb6f10ff62548f076", func := "kenning/kenninglaw05.SetopsKeep", spec := "setopsKeep", unfollowed := true, recurses := true, apart := false, narrowed := true }
def SetopsKeepUptoSaid : Prop := setopsKeepUptoRow.holds Try.pinned (OpenSpec.upto setopsKeepSpec)

/-- 'kenninglaw08.JoinNext', WHERE WHAT IT READS IS OF BULK AT MOST 1048576: true; the input reads as it did. -/
def joinNextUptoRow : OpenClaim := { program := "ytcedofkenfddkaa", sum := "0d077e227faafbcf2ac09998b62eff78e8c07d5bb187c11fb6f10ff62548f076", func := "kenning/kenninglaw08.JoinNext", spec := "joinNext", unfollowed := true, recurses := true, apart := false, narrowed := true }
def JoinNextUptoSaid : Prop := joinNextUptoRow.holds Try.pinned (OpenSpec.upto joinNextSpec)

/-- 'kenninglaw08.JoinSubset', WHERE WHAT IT READS IS OF BULK AT MOST 1048576: true; the input reads as it did. -/
def joinSubsetUptoRow : OpenClaim := { program := "ytcedofkenfddkaa", sum := "0d077e227faafbcf2ac09998b62eff78e8c07d5bb187c11fb6f10ff62548f076", func := "kenning/kenninglaw08.JoinSubset", spec := "joinSubset", unfollowed := true, recurses := true, apart := false, narrowed := true }
def JoinSubsetUptoSaid : Prop := joinSubsetUptoRow.holds Try.pinned (OpenSpec.upto joinSubsetSpec)

/-- 'kenninglaw08.JoinMatches', WHERE WHAT IT READS IS OF BULK AT MOST 1048576: true; the input reads as it did. -/
def joinMatchesUptoRow : OpenClaim := { program := "ytcedofkenfddkaa", sum := "0d077e227faafbcf2ac09998b62eff78e8c07d5bb187c11fb6f10ff62548f076", func := "kenning/kenninglaw08.JoinMatches", spec := "joinMatches", unfollowed := true, recurses := true, apart := false, narrowed := true }
def JoinMatchesUptoSaid : Prop := joinMatchesUptoRow.holds Try.pinned (OpenSpec.upto joinMatchesSpec)

/-- 'kenninglaw08.JoinAlgebra', WHERE WHAT IT READS IS OF BULK AT MOST 1048576: true; the input reads as it did. -/
def joinAlgebraUptoRow : OpenClaim := { program := "ytcedofkenfddkaa", sum := "0d077e227faafbcf2ac09998b62eff78e8c07d5bb187c11fb6f10ff62548f076", func := "kenning/kenninglaw08.JoinAlgebra", spec := "joinAlgebra", unfollowed := true, recurses := true, apart := false, narrowed := true }
def JoinAlgebraUptoSaid : Prop := joinAlgebraUptoRow.holds Try.pinned (OpenSpec.upto joinAlgebraSpec)

/-- 'kenninglaw08.JoinAdds', WHERE WHAT IT READS IS OF BULK AT MOST 1048576: true; the input reads as it did. -/
def joinAddsUptoRow : OpenClaim := { program := "ytcedofkenfddkaa", sum := "0d077e227faafbcf2ac09998b62eff78e8c07d5bb187c11fb6f10ff62548f076", func := "kenning/kenninglaw08.JoinAdds", spec := "joinAdds", unfollowed := true, recurses := true, apart := false, narrowed := true }
def JoinAddsUptoSaid : Prop := joinAddsUptoRow.holds Try.pinned (OpenSpec.upto joinAddsSpec)

/-- 'kenninglaw10.LatticeMatches', WHERE WHAT IT READS IS OF BULK AT MOST 1048576: true; the input reads as it did. -/
def latticeMatchesUptoRow : OpenClaim := { program := "ytcedofkenfddkaa", sum := "0d077e227faafbcf2ac09998b62eff78e8c07d5bb187c11fb6f10ff62548f076", func := "kenning/kenninglaw10.LatticeMatches", spec := "latticeMatches", inPlace := ["slices.overlaps[uint64]"], unfollowed := true, recurses := true, apart := false, narrowed := true }
def LatticeMatchesUptoSaid : Prop := latticeMatchesUptoRow.holds Try.pinned (OpenSpec.upto latticeMatchesSpec)

/-- 'kenninglaw10.LatticeSubset', WHERE WHAT IT READS IS OF BULK AT MOST 1048576: true; the input reads as it did. -/
def latticeSubsetUptoRow : OpenClaim := { program := "ytcedofkenfddkaa", sum := "0d077e227faafbcf2ac09998b62eff78e8c07d5bb187c11fb6f10ff62548f076", func := "kenning/kenninglaw10.LatticeSubset", spec := "latticeSubset", inPlace := ["slices.overlaps[uint64]"], unfollowed := true, recurses := true, apart := false, narrowed := true }
def LatticeSubsetUptoSaid : Prop := latticeSubsetUptoRow.holds Try.pinned (OpenSpec.upto latticeSubsetSpec)

/-- 'kenninglaw10.LatticeCounts', WHERE WHAT IT READS IS OF BULK AT MOST 1048576: true; the input reads as it did. -/
def latticeCountsUptoRow : OpenClaim := { program := "ytcedofkenfddkaa", sum := "0d077e227faafbcf2ac09998b62eff78e8c07d5bb187c11fb6f10ff62548f076", func := "kenning/kenninglaw10.LatticeCounts", spec := "latticeCounts", inPlace := ["slices.overlaps[uint64]"], unfollowed := true, recurses := true, apart := false, narrowed := true }
def LatticeCountsUptoSaid : Prop := latticeCountsUptoRow.holds Try.pinned (OpenSpec.upto latticeCountsSpec)

/-- 'kenninglaw10.LatticeAlgebra', WHERE WHAT IT READS IS OF BULK AT MOST 1048576: true; the input reads as it did. -/
def latticeAlgebraUptoRow : OpenClaim := { program := "ytcedofkenfddkaa", sum := "0d077e227faafbcf2ac09998b62eff78e8c07d5bb187c11fb6f10ff62548f076", func := "kenning/kenninglaw10.LatticeAlgebra", spec := "latticeAlgebra", inPlace := ["slices.overlaps[uint64]"], unfollowed := true, recurses := true, apart := false, narrowed := true }
def LatticeAlgebraUptoSaid : Prop := latticeAlgebraUptoRow.holds Try.pinned (OpenSpec.upto latticeAlgebraSpec)

/-- 'kenninglaw10.LatticeAdds', WHERE WHAT IT READS IS OF BULK AT MOST 1048576: true; the input reads as it did. -/
def latticeAddsUptoRow : OpenClaim := { program := "ytcedofkenfddkaa", sum := "0d077e227faafbcf2ac09998b62eff78e8c07d5bb187c11fb6f10ff62548f076", func := "kenning/kenninglaw10.LatticeAdds", spec := "latticeAdds", inPlace := ["slices.overlaps[uint64]"], unfollowed := true, recurses := true, apart := false, narrowed := true }
def LatticeAddsUptoSaid : Prop := latticeAddsUptoRow.holds Try.pinned (OpenSpec.upto latticeAddsSpec)

end Rows
end Go.Proofs.Ytcedofkenfddkaa
