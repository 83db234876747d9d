/-
  DERIVED. GIVEN WITH THE SEED: THE CARDS: each row of YtbhngpjkakcgfaaGreatDoorRows.lean that lists a variable, with what it lists TIED to the program's text (the seventh form; the later family's looks); each row that meets fmt, with fmt's text TOLD by the authors' own Lean function (tested against real Go, not proved from fmt's source: count such statements apart). THE CARD IS WHAT COUNTS. Prove the row's statement (the work); the ties are given (YtbhngpjkakcgfaaGreatDoorTie.lean); close each card by the builder's one call (the guide's Derived/Test/ToyasCard.lean, 'card_holds'). Laid BY PROGRAM, IN A SANDBOX (cutbox-door.mjs). By AI agents, Wed Nov 11 2026. No macro, syntax, notation, axiom, sorry.
-/
import Derived.Test.YtbhngpjkakcgfaaGreatDoorRows
import GoSem.ClaimSeven
namespace Go.Proofs.YtbhngpjkakcgfaaGreatDoor
namespace Rows

/-- THE TIED CARD OF 'kenninglaw25.ReplicaGets'. -/
def replicaGetsCard : Claim7 := { stood := { row := replicaGetsRow, standIns := [], harness := (true, "49cd91707e6ab92830bb2b1847f1cb810288d69c497aa2856b39a70e2d332e68"), looks := true }, kinds := [], alts := [], laidByText := true, laidKinds := [.handle], laidTests := true, laidLooks := .later }
def ReplicaGetsCardSaid : Prop := Claim7.holds Tryz.pinned (.plain (OpenSpec.ofChange replicaGetsSpec)) replicaGetsCard

/-- THE SECOND FORM's CARD OF 'kenninglaw25.ReplicaGets'. -/
def replicaGetsUptoCard : Claim7 := { stood := { row := replicaGetsUptoRow, standIns := [], harness := (true, "49cd91707e6ab92830bb2b1847f1cb810288d69c497aa2856b39a70e2d332e68"), looks := true }, kinds := [], alts := [], laidByText := true, laidKinds := [.handle], laidTests := true, laidLooks := .later }
def ReplicaGetsUptoCardSaid : Prop := Claim7.holds Tryz.pinned (.plain (OpenSpec.upto replicaGetsSpec)) replicaGetsUptoCard
end Rows
end Go.Proofs.YtbhngpjkakcgfaaGreatDoor
