/-
  DERIVED. GIVEN WITH THE SEED: THE CARDS: each row of YtllbegidbdiokaaGreatDoorRows.lean that lists a variable, with what it lists TIED to the program's text (the seventh form; the later family's looks); each row that meets fmt, with fmt's text TOLD by the authors' own Lean function (tested against real Go, not proved from fmt's source: count such statements apart). THE CARD IS WHAT COUNTS. Prove the row's statement (the work); the ties are given (YtllbegidbdiokaaGreatDoorTie.lean); close each card by the builder's one call (the guide's Derived/Test/ToyasCard.lean, 'card_holds'). Laid BY PROGRAM, IN A SANDBOX (cutbox-door.mjs). By AI agents, Wed Nov 11 2026. No macro, syntax, notation, axiom, sorry.
-/
import Derived.Test.YtllbegidbdiokaaGreatDoorRows
import GoSem.ClaimSeven
namespace Go.Proofs.YtllbegidbdiokaaGreatDoor
namespace Rows

/-- THE TIED CARD OF 'kenninglaw25.ReplicaPulls'. -/
def replicaPullsCard : Claim7 := { stood := { row := replicaPullsRow, standIns := [], harness := (true, "3988487781b4bda1377995ac1567d1dfcbcb635a4344cd0aeb07ac006386e753"), looks := true }, kinds := [], alts := [], laidByText := true, laidKinds := [.handle], laidTests := true, laidLooks := .later }
def ReplicaPullsCardSaid : Prop := Claim7.holds Tryz.pinned (.plain (OpenSpec.ofChange replicaPullsSpec)) replicaPullsCard

/-- THE TIED CARD OF 'kenninglaw25.ReplicaConverges'. -/
def replicaConvergesCard : Claim7 := { stood := { row := replicaConvergesRow, standIns := [], harness := (true, "3988487781b4bda1377995ac1567d1dfcbcb635a4344cd0aeb07ac006386e753"), looks := true }, kinds := [], alts := [], laidByText := true, laidKinds := [.handle], laidTests := true, laidLooks := .later }
def ReplicaConvergesCardSaid : Prop := Claim7.holds Tryz.pinned (.plain (OpenSpec.ofChange replicaConvergesSpec)) replicaConvergesCard

/-- THE TIED CARD OF 'kenninglaw25.ReplicaPlays'. -/
def replicaPlaysCard : Claim7 := { stood := { row := replicaPlaysRow, standIns := [], harness := (true, "3988487781b4bda1377995ac1567d1dfcbcb635a4344cd0aeb07ac006386e753"), looks := true }, kinds := [], alts := [], laidByText := true, laidKinds := [.handle], laidTests := true, laidLooks := .later }
def ReplicaPlaysCardSaid : Prop := Claim7.holds Tryz.pinned (.plain (OpenSpec.ofChange replicaPlaysSpec)) replicaPlaysCard

/-- THE TIED CARD OF 'kenninglaw25.ReplicaGets'. -/
def replicaGetsCard : Claim7 := { stood := { row := replicaGetsRow, standIns := [], harness := (true, "3988487781b4bda1377995ac1567d1dfcbcb635a4344cd0aeb07ac006386e753"), looks := true }, kinds := [], alts := [], laidByText := true, laidKinds := [.handle], laidTests := true, laidLooks := .later }
def ReplicaGetsCardSaid : Prop := Claim7.holds Tryz.pinned (.plain (OpenSpec.ofChange replicaGetsSpec)) replicaGetsCard

/-- THE TIED CARD OF 'kenninglaw25.ReplicaClones'. -/
def replicaClonesCard : Claim7 := { stood := { row := replicaClonesRow, standIns := [], harness := (true, "3988487781b4bda1377995ac1567d1dfcbcb635a4344cd0aeb07ac006386e753"), looks := true }, kinds := [], alts := [], laidByText := true, laidKinds := [.handle], laidTests := true, laidLooks := .later }
def ReplicaClonesCardSaid : Prop := Claim7.holds Tryz.pinned (.plain (OpenSpec.ofChange replicaClonesSpec)) replicaClonesCard

/-- THE TIED CARD OF 'kenninglaw25.ReplicaKnows'. -/
def replicaKnowsCard : Claim7 := { stood := { row := replicaKnowsRow, standIns := [], harness := (true, "3988487781b4bda1377995ac1567d1dfcbcb635a4344cd0aeb07ac006386e753"), looks := true }, kinds := [], alts := [], laidByText := true, laidKinds := [.handle, .data], laidTests := true, laidLooks := .later }
def ReplicaKnowsCardSaid : Prop := Claim7.holds Tryz.pinned (.plain (OpenSpec.ofChange replicaKnowsSpec)) replicaKnowsCard

/-- THE SECOND FORM's CARD OF 'kenninglaw25.ReplicaPulls'. -/
def replicaPullsUptoCard : Claim7 := { stood := { row := replicaPullsUptoRow, standIns := [], harness := (true, "3988487781b4bda1377995ac1567d1dfcbcb635a4344cd0aeb07ac006386e753"), looks := true }, kinds := [], alts := [], laidByText := true, laidKinds := [.handle], laidTests := true, laidLooks := .later }
def ReplicaPullsUptoCardSaid : Prop := Claim7.holds Tryz.pinned (.plain (OpenSpec.upto replicaPullsSpec)) replicaPullsUptoCard

/-- THE SECOND FORM's CARD OF 'kenninglaw25.ReplicaConverges'. -/
def replicaConvergesUptoCard : Claim7 := { stood := { row := replicaConvergesUptoRow, standIns := [], harness := (true, "3988487781b4bda1377995ac1567d1dfcbcb635a4344cd0aeb07ac006386e753"), looks := true }, kinds := [], alts := [], laidByText := true, laidKinds := [.handle], laidTests := true, laidLooks := .later }
def ReplicaConvergesUptoCardSaid : Prop := Claim7.holds Tryz.pinned (.plain (OpenSpec.upto replicaConvergesSpec)) replicaConvergesUptoCard

/-- THE SECOND FORM's CARD OF 'kenninglaw25.ReplicaPlays'. -/
def replicaPlaysUptoCard : Claim7 := { stood := { row := replicaPlaysUptoRow, standIns := [], harness := (true, "3988487781b4bda1377995ac1567d1dfcbcb635a4344cd0aeb07ac006386e753"), looks := true }, kinds := [], alts := [], laidByText := true, laidKinds := [.handle], laidTests := true, laidLooks := .later }
def ReplicaPlaysUptoCardSaid : Prop := Claim7.holds Tryz.pinned (.plain (OpenSpec.upto replicaPlaysSpec)) replicaPlaysUptoCard

/-- THE SECOND FORM's CARD OF 'kenninglaw25.ReplicaGets'. -/
def replicaGetsUptoCard : Claim7 := { stood := { row := replicaGetsUptoRow, standIns := [], harness := (true, "3988487781b4bda1377995ac1567d1dfcbcb635a4344cd0aeb07ac006386e753"), looks := true }, kinds := [], alts := [], laidByText := true, laidKinds := [.handle], laidTests := true, laidLooks := .later }
def ReplicaGetsUptoCardSaid : Prop := Claim7.holds Tryz.pinned (.plain (OpenSpec.upto replicaGetsSpec)) replicaGetsUptoCard

/-- THE SECOND FORM's CARD OF 'kenninglaw25.ReplicaClones'. -/
def replicaClonesUptoCard : Claim7 := { stood := { row := replicaClonesUptoRow, standIns := [], harness := (true, "3988487781b4bda1377995ac1567d1dfcbcb635a4344cd0aeb07ac006386e753"), looks := true }, kinds := [], alts := [], laidByText := true, laidKinds := [.handle], laidTests := true, laidLooks := .later }
def ReplicaClonesUptoCardSaid : Prop := Claim7.holds Tryz.pinned (.plain (OpenSpec.upto replicaClonesSpec)) replicaClonesUptoCard

/-- THE SECOND FORM's CARD OF 'kenninglaw25.ReplicaKnows'. -/
def replicaKnowsUptoCard : Claim7 := { stood := { row := replicaKnowsUptoRow, standIns := [], harness := (true, "3988487781b4bda1377995ac1567d1dfcbcb635a4344cd0aeb07ac006386e753"), looks := true }, kinds := [], alts := [], laidByText := true, laidKinds := [.handle, .data], laidTests := true, laidLooks := .later }
def ReplicaKnowsUptoCardSaid : Prop := Claim7.holds Tryz.pinned (.plain (OpenSpec.upto replicaKnowsSpec)) replicaKnowsUptoCard
end Rows
end Go.Proofs.YtllbegidbdiokaaGreatDoor
