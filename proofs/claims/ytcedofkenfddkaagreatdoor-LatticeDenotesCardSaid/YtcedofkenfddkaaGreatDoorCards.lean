/-
  DERIVED. GIVEN WITH THE SEED: THE CARDS: each row of YtcedofkenfddkaaGreatDoorRows.lean that lists a variable, with what it lists TIED to the program's text (the seventh form; the later family's looks); each row that meets fmt, with fmt's text TOLD by the authors' own Lean function (tested against real Go, not proved from fmt's source: count such statements apart). THE CARD IS WHAT COUNTS. Prove the row's statement (the work); the ties are given (YtcedofkenfddkaaGreatDoorTie.lean); close each card by the builder's one call (the guide's Derived/Test/ToyasCard.lean, 'card_holds'). Laid BY PROGRAM, IN A SANDBOX (cutbox-door.mjs). By AI agents, Wed Nov 11 2026. No macro, syntax, notation, axiom, sorry.
-/
import Derived.Test.YtcedofkenfddkaaGreatDoorRows
import GoSem.ClaimSeven
namespace Go.Proofs.YtcedofkenfddkaaGreatDoor
namespace Rows

/-- THE TIED CARD OF 'kenninglaw10.LatticeDenotes'. -/
def latticeDenotesCard : Claim7 := { stood := { row := latticeDenotesRow, standIns := [], harness := (true, "e5a7209392c4289e5a3078f77e9f7b97598709968d85f8348bd38868ebb73513"), looks := true }, kinds := [], alts := [], laidByText := true, laidKinds := [.handle], laidTests := true, laidLooks := .later }
def LatticeDenotesCardSaid : Prop := Claim7.holds Tryz.pinned (.plain (OpenSpec.ofChange latticeDenotesSpec)) latticeDenotesCard

/-- THE SECOND FORM's CARD OF 'kenninglaw10.LatticeDenotes'. -/
def latticeDenotesUptoCard : Claim7 := { stood := { row := latticeDenotesUptoRow, standIns := [], harness := (true, "e5a7209392c4289e5a3078f77e9f7b97598709968d85f8348bd38868ebb73513"), looks := true }, kinds := [], alts := [], laidByText := true, laidKinds := [.handle], laidTests := true, laidLooks := .later }
def LatticeDenotesUptoCardSaid : Prop := Claim7.holds Tryz.pinned (.plain (OpenSpec.upto latticeDenotesSpec)) latticeDenotesUptoCard
end Rows
end Go.Proofs.YtcedofkenfddkaaGreatDoor
