/-
  DERIVED. GIVEN WITH THE SEED: THE CARDS: each row of YtonhfknjcbakiaaGreatDoorRows.lean that lists a variable, with what it lists TIED to the program's text (the seventh form; the later family's looks); each row that meets fmt, with fmt's text TOLD by the authors' own Lean function (tested against real Go, not proved from fmt's source: count such statements apart). THE CARD IS WHAT COUNTS. Prove the row's statement (the work); the ties are given (YtonhfknjcbakiaaGreatDoorTie.lean); close each card by the builder's one call (the guide's Derived/Test/ToyasCard.lean, 'card_holds'). Laid BY PROGRAM, IN A SANDBOX (cutbox-door.mjs). By AI agents, Wed Nov 11 2026. No macro, syntax, notation, axiom, sorry.
-/
import Derived.Test.YtonhfknjcbakiaaGreatDoorRows
import GoSem.ClaimSeven
namespace Go.Proofs.YtonhfknjcbakiaaGreatDoor
namespace Rows

/-- THE TIED CARD OF 'kenninglaw11.ScopeClones'. -/
def scopeClonesCard : Claim7 := { stood := { row := scopeClonesRow, standIns := [], harness := (true, "0c2a32dd10aa613ab11aeb917e382f6b1689d99cbab020f5564da442ddbb1877"), looks := true }, kinds := [], alts := [], laidByText := true, laidKinds := [.handle], laidTests := true, laidLooks := .later }
def ScopeClonesCardSaid : Prop := Claim7.holds Tryz.pinned (.plain (OpenSpec.ofChange scopeClonesSpec)) scopeClonesCard

/-- THE TIED CARD OF 'kenninglaw14.KnowAlgebra'. -/
def knowAlgebraCard : Claim7 := { stood := { row := knowAlgebraRow, standIns := [], harness := (true, "0c2a32dd10aa613ab11aeb917e382f6b1689d99cbab020f5564da442ddbb1877"), looks := true }, kinds := [], alts := [], laidByText := true, laidKinds := [.handle], laidTests := true, laidLooks := .later }
def KnowAlgebraCardSaid : Prop := Claim7.holds Tryz.pinned (.plain (OpenSpec.ofChange knowAlgebraSpec)) knowAlgebraCard

/-- THE TIED CARD OF 'kenninglaw14.KnowParts'. -/
def knowPartsCard : Claim7 := { stood := { row := knowPartsRow, standIns := [], harness := (true, "0c2a32dd10aa613ab11aeb917e382f6b1689d99cbab020f5564da442ddbb1877"), looks := true }, kinds := [], alts := [], laidByText := true, laidKinds := [.handle], laidTests := true, laidLooks := .later }
def KnowPartsCardSaid : Prop := Claim7.holds Tryz.pinned (.plain (OpenSpec.ofChange knowPartsSpec)) knowPartsCard

/-- THE TIED CARD OF 'kenninglaw15.OrderLeast'. -/
def orderLeastCard : Claim7 := { stood := { row := orderLeastRow, standIns := [], harness := (true, "0c2a32dd10aa613ab11aeb917e382f6b1689d99cbab020f5564da442ddbb1877"), looks := true }, kinds := [], alts := [], laidByText := true, laidKinds := [.handle], laidTests := true, laidLooks := .later }
def OrderLeastCardSaid : Prop := Claim7.holds Tryz.pinned (.plain (OpenSpec.ofChange orderLeastSpec)) orderLeastCard

/-- THE TIED CARD OF 'kenninglaw14.KnowInserts'. -/
def knowInsertsCard : Claim7 := { stood := { row := knowInsertsRow, standIns := [], harness := (true, "0c2a32dd10aa613ab11aeb917e382f6b1689d99cbab020f5564da442ddbb1877"), looks := true }, kinds := [], alts := [], laidByText := true, laidKinds := [.handle], laidTests := true, laidLooks := .later }
def KnowInsertsCardSaid : Prop := Claim7.holds Tryz.pinned (.plain (OpenSpec.ofChange knowInsertsSpec)) knowInsertsCard

/-- THE TIED CARD OF 'kenninglaw15.OrderWitness'. -/
def orderWitnessCard : Claim7 := { stood := { row := orderWitnessRow, standIns := [], harness := (true, "0c2a32dd10aa613ab11aeb917e382f6b1689d99cbab020f5564da442ddbb1877"), looks := true }, kinds := [], alts := [], laidByText := true, laidKinds := [.handle], laidTests := true, laidLooks := .later }
def OrderWitnessCardSaid : Prop := Claim7.holds Tryz.pinned (.plain (OpenSpec.ofChange orderWitnessSpec)) orderWitnessCard

/-- THE TIED CARD OF 'kenninglaw14.KnowMatches'. -/
def knowMatchesCard : Claim7 := { stood := { row := knowMatchesRow, standIns := [], harness := (true, "0c2a32dd10aa613ab11aeb917e382f6b1689d99cbab020f5564da442ddbb1877"), looks := true }, kinds := [], alts := [], laidByText := true, laidKinds := [.handle], laidTests := true, laidLooks := .later }
def KnowMatchesCardSaid : Prop := Claim7.holds Tryz.pinned (.plain (OpenSpec.ofChange knowMatchesSpec)) knowMatchesCard

/-- THE TIED CARD OF 'kenninglaw14.KnowProjects'. -/
def knowProjectsCard : Claim7 := { stood := { row := knowProjectsRow, standIns := [], harness := (true, "0c2a32dd10aa613ab11aeb917e382f6b1689d99cbab020f5564da442ddbb1877"), looks := true }, kinds := [], alts := [], laidByText := true, laidKinds := [.handle], laidTests := true, laidLooks := .later }
def KnowProjectsCardSaid : Prop := Claim7.holds Tryz.pinned (.plain (OpenSpec.ofChange knowProjectsSpec)) knowProjectsCard

/-- THE TIED CARD OF 'kenninglaw14.KnowDenotes'. -/
def knowDenotesCard : Claim7 := { stood := { row := knowDenotesRow, standIns := [], harness := (true, "0c2a32dd10aa613ab11aeb917e382f6b1689d99cbab020f5564da442ddbb1877"), looks := true }, kinds := [], alts := [], laidByText := true, laidKinds := [.handle, .data], laidTests := true, laidLooks := .later }
def KnowDenotesCardSaid : Prop := Claim7.holds Tryz.pinned (.plain (OpenSpec.ofChange knowDenotesSpec)) knowDenotesCard

/-- THE TIED CARD OF 'kenninglaw15.OrderRejects'. -/
def orderRejectsCard : Claim7 := { stood := { row := orderRejectsRow, standIns := [], harness := (true, "0c2a32dd10aa613ab11aeb917e382f6b1689d99cbab020f5564da442ddbb1877"), looks := true }, kinds := [], alts := [], laidByText := true, laidKinds := [.handle], laidTests := true, laidLooks := .later }
def OrderRejectsCardSaid : Prop := Claim7.holds Tryz.pinned (.plain (OpenSpec.ofChange orderRejectsSpec)) orderRejectsCard

/-- THE SECOND FORM's CARD OF 'kenninglaw11.ScopeClones'. -/
def scopeClonesUptoCard : Claim7 := { stood := { row := scopeClonesUptoRow, standIns := [], harness := (true, "0c2a32dd10aa613ab11aeb917e382f6b1689d99cbab020f5564da442ddbb1877"), looks := true }, kinds := [], alts := [], laidByText := true, laidKinds := [.handle], laidTests := true, laidLooks := .later }
def ScopeClonesUptoCardSaid : Prop := Claim7.holds Tryz.pinned (.plain (OpenSpec.upto scopeClonesSpec)) scopeClonesUptoCard

/-- THE SECOND FORM's CARD OF 'kenninglaw14.KnowAlgebra'. -/
def knowAlgebraUptoCard : Claim7 := { stood := { row := knowAlgebraUptoRow, standIns := [], harness := (true, "0c2a32dd10aa613ab11aeb917e382f6b1689d99cbab020f5564da442ddbb1877"), looks := true }, kinds := [], alts := [], laidByText := true, laidKinds := [.handle], laidTests := true, laidLooks := .later }
def KnowAlgebraUptoCardSaid : Prop := Claim7.holds Tryz.pinned (.plain (OpenSpec.upto knowAlgebraSpec)) knowAlgebraUptoCard

/-- THE SECOND FORM's CARD OF 'kenninglaw14.KnowParts'. -/
def knowPartsUptoCard : Claim7 := { stood := { row := knowPartsUptoRow, standIns := [], harness := (true, "0c2a32dd10aa613ab11aeb917e382f6b1689d99cbab020f5564da442ddbb1877"), looks := true }, kinds := [], alts := [], laidByText := true, laidKinds := [.handle], laidTests := true, laidLooks := .later }
def KnowPartsUptoCardSaid : Prop := Claim7.holds Tryz.pinned (.plain (OpenSpec.upto knowPartsSpec)) knowPartsUptoCard

/-- THE SECOND FORM's CARD OF 'kenninglaw15.OrderLeast'. -/
def orderLeastUptoCard : Claim7 := { stood := { row := orderLeastUptoRow, standIns := [], harness := (true, "0c2a32dd10aa613ab11aeb917e382f6b1689d99cbab020f5564da442ddbb1877"), looks := true }, kinds := [], alts := [], laidByText := true, laidKinds := [.handle], laidTests := true, laidLooks := .later }
def OrderLeastUptoCardSaid : Prop := Claim7.holds Tryz.pinned (.plain (OpenSpec.upto orderLeastSpec)) orderLeastUptoCard

/-- THE SECOND FORM's CARD OF 'kenninglaw14.KnowInserts'. -/
def knowInsertsUptoCard : Claim7 := { stood := { row := knowInsertsUptoRow, standIns := [], harness := (true, "0c2a32dd10aa613ab11aeb917e382f6b1689d99cbab020f5564da442ddbb1877"), looks := true }, kinds := [], alts := [], laidByText := true, laidKinds := [.handle], laidTests := true, laidLooks := .later }
def KnowInsertsUptoCardSaid : Prop := Claim7.holds Tryz.pinned (.plain (OpenSpec.upto knowInsertsSpec)) knowInsertsUptoCard

/-- THE SECOND FORM's CARD OF 'kenninglaw15.OrderWitness'. -/
def orderWitnessUptoCard : Claim7 := { stood := { row := orderWitnessUptoRow, standIns := [], harness := (true, "0c2a32dd10aa613ab11aeb917e382f6b1689d99cbab020f5564da442ddbb1877"), looks := true }, kinds := [], alts := [], laidByText := true, laidKinds := [.handle], laidTests := true, laidLooks := .later }
def OrderWitnessUptoCardSaid : Prop := Claim7.holds Tryz.pinned (.plain (OpenSpec.upto orderWitnessSpec)) orderWitnessUptoCard

/-- THE SECOND FORM's CARD OF 'kenninglaw14.KnowMatches'. -/
def knowMatchesUptoCard : Claim7 := { stood := { row := knowMatchesUptoRow, standIns := [], harness := (true, "0c2a32dd10aa613ab11aeb917e382f6b1689d99cbab020f5564da442ddbb1877"), looks := true }, kinds := [], alts := [], laidByText := true, laidKinds := [.handle], laidTests := true, laidLooks := .later }
def KnowMatchesUptoCardSaid : Prop := Claim7.holds Tryz.pinned (.plain (OpenSpec.upto knowMatchesSpec)) knowMatchesUptoCard

/-- THE SECOND FORM's CARD OF 'kenninglaw14.KnowProjects'. -/
def knowProjectsUptoCard : Claim7 := { stood := { row := knowProjectsUptoRow, standIns := [], harness := (true, "0c2a32dd10aa613ab11aeb917e382f6b1689d99cbab020f5564da442ddbb1877"), looks := true }, kinds := [], alts := [], laidByText := true, laidKinds := [.handle], laidTests := true, laidLooks := .later }
def KnowProjectsUptoCardSaid : Prop := Claim7.holds Tryz.pinned (.plain (OpenSpec.upto knowProjectsSpec)) knowProjectsUptoCard

/-- THE SECOND FORM's CARD OF 'kenninglaw14.KnowDenotes'. -/
def knowDenotesUptoCard : Claim7 := { stood := { row := knowDenotesUptoRow, standIns := [], harness := (true, "0c2a32dd10aa613ab11aeb917e382f6b1689d99cbab020f5564da442ddbb1877"), looks := true }, kinds := [], alts := [], laidByText := true, laidKinds := [.handle, .data], laidTests := true, laidLooks := .later }
def KnowDenotesUptoCardSaid : Prop := Claim7.holds Tryz.pinned (.plain (OpenSpec.upto knowDenotesSpec)) knowDenotesUptoCard

/-- THE SECOND FORM's CARD OF 'kenninglaw15.OrderRejects'. -/
def orderRejectsUptoCard : Claim7 := { stood := { row := orderRejectsUptoRow, standIns := [], harness := (true, "0c2a32dd10aa613ab11aeb917e382f6b1689d99cbab020f5564da442ddbb1877"), looks := true }, kinds := [], alts := [], laidByText := true, laidKinds := [.handle], laidTests := true, laidLooks := .later }
def OrderRejectsUptoCardSaid : Prop := Claim7.holds Tryz.pinned (.plain (OpenSpec.upto orderRejectsSpec)) orderRejectsUptoCard
end Rows
end Go.Proofs.YtonhfknjcbakiaaGreatDoor
