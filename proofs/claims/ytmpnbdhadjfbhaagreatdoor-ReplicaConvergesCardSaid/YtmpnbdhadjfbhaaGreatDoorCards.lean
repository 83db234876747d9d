/-
  DERIVED. GIVEN WITH THE SEED: THE CARDS: each row of YtmpnbdhadjfbhaaGreatDoorRows.lean that lists a variable, with what it lists TIED to the program's text (the seventh form; the later family's looks); each row that meets fmt, with fmt's text TOLD by the authors' own Lean function (tested against real Go, not proved from fmt's source: count such statements apart). THE CARD IS WHAT COUNTS. Prove the row's statement (the work); the ties are given (YtmpnbdhadjfbhaaGreatDoorTie.lean); close each card by the builder's one call (the guide's Derived/Test/ToyasCard.lean, 'card_holds'). Laid BY PROGRAM, IN A SANDBOX (cutbox-door.mjs). By AI agents, Wed Nov 11 2026. No macro, syntax, notation, axiom, sorry.
-/
import Derived.Test.YtmpnbdhadjfbhaaGreatDoorRows
import GoSem.ClaimSeven
namespace Go.Proofs.YtmpnbdhadjfbhaaGreatDoor
namespace Rows

/-- THE TIED CARD OF 'kenninglaw25.ReplicaConverges'. -/
def replicaConvergesCard : Claim7 := { stood := { row := replicaConvergesRow, standIns := [], harness := (true, "d223efeb1d2c9855de1f44617bf8539ed0bd9834076af6539c8394327e0e52b1"), looks := true }, kinds := [], alts := [], laidByText := true, laidKinds := [.handle], laidTests := true, laidLooks := .later }
def ReplicaConvergesCardSaid : Prop := Claim7.holds Tryz.pinned (.plain (OpenSpec.ofChange replicaConvergesSpec)) replicaConvergesCard

/-- THE TIED CARD OF 'kenninglaw25.ReplicaClones'. -/
def replicaClonesCard : Claim7 := { stood := { row := replicaClonesRow, standIns := [], harness := (true, "d223efeb1d2c9855de1f44617bf8539ed0bd9834076af6539c8394327e0e52b1"), looks := true }, kinds := [], alts := [], laidByText := true, laidKinds := [.handle], laidTests := true, laidLooks := .later }
def ReplicaClonesCardSaid : Prop := Claim7.holds Tryz.pinned (.plain (OpenSpec.ofChange replicaClonesSpec)) replicaClonesCard

/-- THE SECOND FORM's CARD OF 'kenninglaw25.ReplicaConverges'. -/
def replicaConvergesUptoCard : Claim7 := { stood := { row := replicaConvergesUptoRow, standIns := [], harness := (true, "d223efeb1d2c9855de1f44617bf8539ed0bd9834076af6539c8394327e0e52b1"), looks := true }, kinds := [], alts := [], laidByText := true, laidKinds := [.handle], laidTests := true, laidLooks := .later }
def ReplicaConvergesUptoCardSaid : Prop := Claim7.holds Tryz.pinned (.plain (OpenSpec.upto replicaConvergesSpec)) replicaConvergesUptoCard

/-- THE SECOND FORM's CARD OF 'kenninglaw25.ReplicaClones'. -/
def replicaClonesUptoCard : Claim7 := { stood := { row := replicaClonesUptoRow, standIns := [], harness := (true, "d223efeb1d2c9855de1f44617bf8539ed0bd9834076af6539c8394327e0e52b1"), looks := true }, kinds := [], alts := [], laidByText := true, laidKinds := [.handle], laidTests := true, laidLooks := .later }
def ReplicaClonesUptoCardSaid : Prop := Claim7.holds Tryz.pinned (.plain (OpenSpec.upto replicaClonesSpec)) replicaClonesUptoCard
end Rows
end Go.Proofs.YtmpnbdhadjfbhaaGreatDoor
