/-
  DERIVED. GIVEN WITH THE SEED: THE CARDS: each row of YtjdjjlkifdimkaaGreatDoorRows.lean that lists a variable, with what it lists TIED to the program's text (the seventh form; the later family's looks); each row that meets fmt, with fmt's text TOLD by the authors' own Lean function (tested against real Go, not proved from fmt's source: count such statements apart). THE CARD IS WHAT COUNTS. Prove the row's statement (the work); the ties are given (YtjdjjlkifdimkaaGreatDoorTie.lean); close each card by the builder's one call (the guide's Derived/Test/ToyasCard.lean, 'card_holds'). Laid BY PROGRAM, IN A SANDBOX (cutbox-door.mjs). By AI agents, Wed Nov 11 2026. No macro, syntax, notation, axiom, sorry.
-/
import Derived.Test.YtjdjjlkifdimkaaGreatDoorRows
import GoSem.ClaimSeven
namespace Go.Proofs.YtjdjjlkifdimkaaGreatDoor
namespace Rows

/-- THE TIED CARD OF 'kenninglaw25.ReplicaPulls'. -/
def replicaPullsCard : Claim7 := { stood := { row := replicaPullsRow, standIns := [], harness := (true, "5c7fb562887f983fd7d48ea7b277cb899f96af25a3c7538ebf4a09872248ad74"), looks := true }, kinds := [], alts := [], laidByText := true, laidKinds := [.handle], laidTests := true, laidLooks := .later }
def ReplicaPullsCardSaid : Prop := Claim7.holds Tryz.pinned (.plain (OpenSpec.ofChange replicaPullsSpec)) replicaPullsCard

/-- THE TIED CARD OF 'kenninglaw25.ReplicaKnows'. -/
def replicaKnowsCard : Claim7 := { stood := { row := replicaKnowsRow, standIns := [], harness := (true, "5c7fb562887f983fd7d48ea7b277cb899f96af25a3c7538ebf4a09872248ad74"), looks := true }, kinds := [], alts := [], laidByText := true, laidKinds := [.handle, .data], laidTests := true, laidLooks := .later }
def ReplicaKnowsCardSaid : Prop := Claim7.holds Tryz.pinned (.plain (OpenSpec.ofChange replicaKnowsSpec)) replicaKnowsCard

/-- THE SECOND FORM's CARD OF 'kenninglaw25.ReplicaPulls'. -/
def replicaPullsUptoCard : Claim7 := { stood := { row := replicaPullsUptoRow, standIns := [], harness := (true, "5c7fb562887f983fd7d48ea7b277cb899f96af25a3c7538ebf4a09872248ad74"), looks := true }, kinds := [], alts := [], laidByText := true, laidKinds := [.handle], laidTests := true, laidLooks := .later }
def ReplicaPullsUptoCardSaid : Prop := Claim7.holds Tryz.pinned (.plain (OpenSpec.upto replicaPullsSpec)) replicaPullsUptoCard

/-- THE SECOND FORM's CARD OF 'kenninglaw25.ReplicaKnows'. -/
def replicaKnowsUptoCard : Claim7 := { stood := { row := replicaKnowsUptoRow, standIns := [], harness := (true, "5c7fb562887f983fd7d48ea7b277cb899f96af25a3c7538ebf4a09872248ad74"), looks := true }, kinds := [], alts := [], laidByText := true, laidKinds := [.handle, .data], laidTests := true, laidLooks := .later }
def ReplicaKnowsUptoCardSaid : Prop := Claim7.holds Tryz.pinned (.plain (OpenSpec.upto replicaKnowsSpec)) replicaKnowsUptoCard
end Rows
end Go.Proofs.YtjdjjlkifdimkaaGreatDoor
