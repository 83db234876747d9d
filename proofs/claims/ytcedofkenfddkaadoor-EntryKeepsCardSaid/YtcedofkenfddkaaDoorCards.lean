/-
  DERIVED. GIVEN WITH THE SEED: THE CARDS: each row of YtcedofkenfddkaaDoorRows.lean that lists a variable, with what it lists TIED to the program's text (the seventh form; the later family's looks); each row that meets fmt, with fmt's text TOLD by the authors' own Lean function (tested against real Go, not proved from fmt's source: count such statements apart). THE CARD IS WHAT COUNTS. Prove the row's statement (the work); the ties are given (YtcedofkenfddkaaDoorTie.lean); close each card by the builder's one call (the guide's Derived/Test/ToyasCard.lean, 'card_holds'). Laid BY PROGRAM, IN A SANDBOX (cutbox-door.mjs). By AI agents, Wed Nov 11 2026. No macro, syntax, notation, axiom, sorry.
-/
import Derived.Test.YtcedofkenfddkaaDoorRows
import GoSem.ClaimSeven
namespace Go.Proofs.YtcedofkenfddkaaDoor
namespace Rows

/-- THE TIED CARD OF 'kenninglaw05.SetopsDenote'. -/
def setopsDenoteCard : Claim7 := { stood := { row := setopsDenoteRow, standIns := [], harness := (true, "703c1c40f94a878e48025fd73f50fd4e9e7fc5f1a76af3db0ee3f19cd1c2bb63"), looks := true }, kinds := [], alts := [], laidByText := true, laidKinds := [.handle], laidTests := true, laidLooks := .later }
def SetopsDenoteCardSaid : Prop := Claim7.holds Tryd.pinned (.plain (OpenSpec.ofChange setopsDenoteSpec)) setopsDenoteCard

/-- THE TIED CARD OF 'kenninglaw07.EntryKnows'. -/
def entryKnowsCard : Claim7 := { stood := { row := entryKnowsRow, standIns := [], harness := (true, "703c1c40f94a878e48025fd73f50fd4e9e7fc5f1a76af3db0ee3f19cd1c2bb63"), looks := true }, kinds := [], alts := [], laidByText := true, laidKinds := [.handle], laidTests := true, laidLooks := .later }
def EntryKnowsCardSaid : Prop := Claim7.holds Tryd.pinned (.plain (OpenSpec.ofChange entryKnowsSpec)) entryKnowsCard

/-- THE TIED CARD OF 'kenninglaw07.EntryOf'. -/
def entryOfCard : Claim7 := { stood := { row := entryOfRow, standIns := [], harness := (true, "703c1c40f94a878e48025fd73f50fd4e9e7fc5f1a76af3db0ee3f19cd1c2bb63"), looks := true }, kinds := [], alts := [], laidByText := true, laidKinds := [.handle], laidTests := true, laidLooks := .later }
def EntryOfCardSaid : Prop := Claim7.holds Tryd.pinned (.plain (OpenSpec.ofChange entryOfSpec)) entryOfCard

/-- THE TIED CARD OF 'kenninglaw07.EntryKeeps'. -/
def entryKeepsCard : Claim7 := { stood := { row := entryKeepsRow, standIns := [], harness := (true, "703c1c40f94a878e48025fd73f50fd4e9e7fc5f1a76af3db0ee3f19cd1c2bb63"), looks := true }, kinds := [], alts := [], laidByText := true, laidKinds := [.handle], laidTests := true, laidLooks := .later }
def EntryKeepsCardSaid : Prop := Claim7.holds Tryd.pinned (.plain (OpenSpec.ofChange entryKeepsSpec)) entryKeepsCard

/-- THE TIED CARD OF 'kenninglaw07.EntryChecks'. -/
def entryChecksCard : Claim7 := { stood := { row := entryChecksRow, standIns := [], harness := (true, "703c1c40f94a878e48025fd73f50fd4e9e7fc5f1a76af3db0ee3f19cd1c2bb63"), looks := true }, kinds := [], alts := [], laidByText := true, laidKinds := [.handle], laidTests := true, laidLooks := .later }
def EntryChecksCardSaid : Prop := Claim7.holds Tryd.pinned (.plain (OpenSpec.ofChange entryChecksSpec)) entryChecksCard

/-- THE TIED CARD OF 'kenninglaw07.EntrySame'. -/
def entrySameCard : Claim7 := { stood := { row := entrySameRow, standIns := [], harness := (true, "703c1c40f94a878e48025fd73f50fd4e9e7fc5f1a76af3db0ee3f19cd1c2bb63"), looks := true }, kinds := [], alts := [], laidByText := true, laidKinds := [.handle], laidTests := true, laidLooks := .later }
def EntrySameCardSaid : Prop := Claim7.holds Tryd.pinned (.plain (OpenSpec.ofChange entrySameSpec)) entrySameCard

/-- THE TIED CARD OF 'kenninglaw07.EntryCanon'. -/
def entryCanonCard : Claim7 := { stood := { row := entryCanonRow, standIns := [], harness := (true, "703c1c40f94a878e48025fd73f50fd4e9e7fc5f1a76af3db0ee3f19cd1c2bb63"), looks := true }, kinds := [], alts := [], laidByText := true, laidKinds := [.handle], laidTests := true, laidLooks := .later }
def EntryCanonCardSaid : Prop := Claim7.holds Tryd.pinned (.plain (OpenSpec.ofChange entryCanonSpec)) entryCanonCard

/-- THE TIED CARD OF 'kenninglaw09.VectorKnows'. -/
def vectorKnowsCard : Claim7 := { stood := { row := vectorKnowsRow, standIns := [], harness := (true, "703c1c40f94a878e48025fd73f50fd4e9e7fc5f1a76af3db0ee3f19cd1c2bb63"), looks := true }, kinds := [], alts := [], laidByText := true, laidKinds := [.handle], laidTests := true, laidLooks := .later }
def VectorKnowsCardSaid : Prop := Claim7.holds Tryd.pinned (.plain (OpenSpec.ofChange vectorKnowsSpec)) vectorKnowsCard

/-- THE TIED CARD OF 'kenninglaw09.VectorNumbers'. -/
def vectorNumbersCard : Claim7 := { stood := { row := vectorNumbersRow, standIns := [], harness := (true, "703c1c40f94a878e48025fd73f50fd4e9e7fc5f1a76af3db0ee3f19cd1c2bb63"), looks := true }, kinds := [], alts := [], laidByText := true, laidKinds := [.handle], laidTests := true, laidLooks := .later }
def VectorNumbersCardSaid : Prop := Claim7.holds Tryd.pinned (.plain (OpenSpec.ofChange vectorNumbersSpec)) vectorNumbersCard

/-- THE TIED CARD OF 'kenninglaw09.VectorOrder'. -/
def vectorOrderCard : Claim7 := { stood := { row := vectorOrderRow, standIns := [], harness := (true, "703c1c40f94a878e48025fd73f50fd4e9e7fc5f1a76af3db0ee3f19cd1c2bb63"), looks := true }, kinds := [], alts := [], laidByText := true, laidKinds := [.handle], laidTests := true, laidLooks := .later }
def VectorOrderCardSaid : Prop := Claim7.holds Tryd.pinned (.plain (OpenSpec.ofChange vectorOrderSpec)) vectorOrderCard

/-- THE TIED CARD OF 'kenninglaw09.VectorChecks'. -/
def vectorChecksCard : Claim7 := { stood := { row := vectorChecksRow, standIns := [], harness := (true, "703c1c40f94a878e48025fd73f50fd4e9e7fc5f1a76af3db0ee3f19cd1c2bb63"), looks := true }, kinds := [], alts := [], laidByText := true, laidKinds := [.handle], laidTests := true, laidLooks := .later }
def VectorChecksCardSaid : Prop := Claim7.holds Tryd.pinned (.plain (OpenSpec.ofChange vectorChecksSpec)) vectorChecksCard

/-- THE TIED CARD OF 'kenninglaw08.JoinDenotes'. -/
def joinDenotesCard : Claim7 := { stood := { row := joinDenotesRow, standIns := [], harness := (true, "703c1c40f94a878e48025fd73f50fd4e9e7fc5f1a76af3db0ee3f19cd1c2bb63"), looks := true }, kinds := [], alts := [], laidByText := true, laidKinds := [.handle], laidTests := true, laidLooks := .later }
def JoinDenotesCardSaid : Prop := Claim7.holds Tryd.pinned (.plain (OpenSpec.ofChange joinDenotesSpec)) joinDenotesCard

/-- THE TIED CARD OF 'kenninglaw09.VectorCanon'. -/
def vectorCanonCard : Claim7 := { stood := { row := vectorCanonRow, standIns := [], harness := (true, "703c1c40f94a878e48025fd73f50fd4e9e7fc5f1a76af3db0ee3f19cd1c2bb63"), looks := true }, kinds := [], alts := [], laidByText := true, laidKinds := [.handle], laidTests := true, laidLooks := .later }
def VectorCanonCardSaid : Prop := Claim7.holds Tryd.pinned (.plain (OpenSpec.ofChange vectorCanonSpec)) vectorCanonCard

/-- THE TIED CARD OF 'kenninglaw09.VectorKeeps'. -/
def vectorKeepsCard : Claim7 := { stood := { row := vectorKeepsRow, standIns := [], harness := (true, "703c1c40f94a878e48025fd73f50fd4e9e7fc5f1a76af3db0ee3f19cd1c2bb63"), looks := true }, kinds := [], alts := [], laidByText := true, laidKinds := [.handle], laidTests := true, laidLooks := .later }
def VectorKeepsCardSaid : Prop := Claim7.holds Tryd.pinned (.plain (OpenSpec.ofChange vectorKeepsSpec)) vectorKeepsCard

/-- THE SECOND FORM's CARD OF 'kenninglaw05.SetopsDenote'. -/
def setopsDenoteUptoCard : Claim7 := { stood := { row := setopsDenoteUptoRow, standIns := [], harness := (true, "703c1c40f94a878e48025fd73f50fd4e9e7fc5f1a76af3db0ee3f19cd1c2bb63"), looks := true }, kinds := [], alts := [], laidByText := true, laidKinds := [.handle], laidTests := true, laidLooks := .later }
def SetopsDenoteUptoCardSaid : Prop := Claim7.holds Tryd.pinned (.plain (OpenSpec.upto setopsDenoteSpec)) setopsDenoteUptoCard

/-- THE SECOND FORM's CARD OF 'kenninglaw07.EntryKnows'. -/
def entryKnowsUptoCard : Claim7 := { stood := { row := entryKnowsUptoRow, standIns := [], harness := (true, "703c1c40f94a878e48025fd73f50fd4e9e7fc5f1a76af3db0ee3f19cd1c2bb63"), looks := true }, kinds := [], alts := [], laidByText := true, laidKinds := [.handle], laidTests := true, laidLooks := .later }
def EntryKnowsUptoCardSaid : Prop := Claim7.holds Tryd.pinned (.plain (OpenSpec.upto entryKnowsSpec)) entryKnowsUptoCard

/-- THE SECOND FORM's CARD OF 'kenninglaw07.EntryOf'. -/
def entryOfUptoCard : Claim7 := { stood := { row := entryOfUptoRow, standIns := [], harness := (true, "703c1c40f94a878e48025fd73f50fd4e9e7fc5f1a76af3db0ee3f19cd1c2bb63"), looks := true }, kinds := [], alts := [], laidByText := true, laidKinds := [.handle], laidTests := true, laidLooks := .later }
def EntryOfUptoCardSaid : Prop := Claim7.holds Tryd.pinned (.plain (OpenSpec.upto entryOfSpec)) entryOfUptoCard

/-- THE SECOND FORM's CARD OF 'kenninglaw07.EntryKeeps'. -/
def entryKeepsUptoCard : Claim7 := { stood := { row := entryKeepsUptoRow, standIns := [], harness := (true, "703c1c40f94a878e48025fd73f50fd4e9e7fc5f1a76af3db0ee3f19cd1c2bb63"), looks := true }, kinds := [], alts := [], laidByText := true, laidKinds := [.handle], laidTests := true, laidLooks := .later }
def EntryKeepsUptoCardSaid : Prop := Claim7.holds Tryd.pinned (.plain (OpenSpec.upto entryKeepsSpec)) entryKeepsUptoCard

/-- THE SECOND FORM's CARD OF 'kenninglaw07.EntryChecks'. -/
def entryChecksUptoCard : Claim7 := { stood := { row := entryChecksUptoRow, standIns := [], harness := (true, "703c1c40f94a878e48025fd73f50fd4e9e7fc5f1a76af3db0ee3f19cd1c2bb63"), looks := true }, kinds := [], alts := [], laidByText := true, laidKinds := [.handle], laidTests := true, laidLooks := .later }
def EntryChecksUptoCardSaid : Prop := Claim7.holds Tryd.pinned (.plain (OpenSpec.upto entryChecksSpec)) entryChecksUptoCard

/-- THE SECOND FORM's CARD OF 'kenninglaw07.EntrySame'. -/
def entrySameUptoCard : Claim7 := { stood := { row := entrySameUptoRow, standIns := [], harness := (true, "703c1c40f94a878e48025fd73f50fd4e9e7fc5f1a76af3db0ee3f19cd1c2bb63"), looks := true }, kinds := [], alts := [], laidByText := true, laidKinds := [.handle], laidTests := true, laidLooks := .later }
def EntrySameUptoCardSaid : Prop := Claim7.holds Tryd.pinned (.plain (OpenSpec.upto entrySameSpec)) entrySameUptoCard

/-- THE SECOND FORM's CARD OF 'kenninglaw07.EntryCanon'. -/
def entryCanonUptoCard : Claim7 := { stood := { row := entryCanonUptoRow, standIns := [], harness := (true, "703c1c40f94a878e48025fd73f50fd4e9e7fc5f1a76af3db0ee3f19cd1c2bb63"), looks := true }, kinds := [], alts := [], laidByText := true, laidKinds := [.handle], laidTests := true, laidLooks := .later }
def EntryCanonUptoCardSaid : Prop := Claim7.holds Tryd.pinned (.plain (OpenSpec.upto entryCanonSpec)) entryCanonUptoCard

/-- THE SECOND FORM's CARD OF 'kenninglaw09.VectorKnows'. -/
def vectorKnowsUptoCard : Claim7 := { stood := { row := vectorKnowsUptoRow, standIns := [], harness := (true, "703c1c40f94a878e48025fd73f50fd4e9e7fc5f1a76af3db0ee3f19cd1c2bb63"), looks := true }, kinds := [], alts := [], laidByText := true, laidKinds := [.handle], laidTests := true, laidLooks := .later }
def VectorKnowsUptoCardSaid : Prop := Claim7.holds Tryd.pinned (.plain (OpenSpec.upto vectorKnowsSpec)) vectorKnowsUptoCard

/-- THE SECOND FORM's CARD OF 'kenninglaw09.VectorNumbers'. -/
def vectorNumbersUptoCard : Claim7 := { stood := { row := vectorNumbersUptoRow, standIns := [], harness := (true, "703c1c40f94a878e48025fd73f50fd4e9e7fc5f1a76af3db0ee3f19cd1c2bb63"), looks := true }, kinds := [], alts := [], laidByText := true, laidKinds := [.handle], laidTests := true, laidLooks := .later }
def VectorNumbersUptoCardSaid : Prop := Claim7.holds Tryd.pinned (.plain (OpenSpec.upto vectorNumbersSpec)) vectorNumbersUptoCard

/-- THE SECOND FORM's CARD OF 'kenninglaw09.VectorOrder'. -/
def vectorOrderUptoCard : Claim7 := { stood := { row := vectorOrderUptoRow, standIns := [], harness := (true, "703c1c40f94a878e48025fd73f50fd4e9e7fc5f1a76af3db0ee3f19cd1c2bb63"), looks := true }, kinds := [], alts := [], laidByText := true, laidKinds := [.handle], laidTests := true, laidLooks := .later }
def VectorOrderUptoCardSaid : Prop := Claim7.holds Tryd.pinned (.plain (OpenSpec.upto vectorOrderSpec)) vectorOrderUptoCard

/-- THE SECOND FORM's CARD OF 'kenninglaw09.VectorChecks'. -/
def vectorChecksUptoCard : Claim7 := { stood := { row := vectorChecksUptoRow, standIns := [], harness := (true, "703c1c40f94a878e48025fd73f50fd4e9e7fc5f1a76af3db0ee3f19cd1c2bb63"), looks := true }, kinds := [], alts := [], laidByText := true, laidKinds := [.handle], laidTests := true, laidLooks := .later }
def VectorChecksUptoCardSaid : Prop := Claim7.holds Tryd.pinned (.plain (OpenSpec.upto vectorChecksSpec)) vectorChecksUptoCard

/-- THE SECOND FORM's CARD OF 'kenninglaw08.JoinDenotes'. -/
def joinDenotesUptoCard : Claim7 := { stood := { row := joinDenotesUptoRow, standIns := [], harness := (true, "703c1c40f94a878e48025fd73f50fd4e9e7fc5f1a76af3db0ee3f19cd1c2bb63"), looks := true }, kinds := [], alts := [], laidByText := true, laidKinds := [.handle], laidTests := true, laidLooks := .later }
def JoinDenotesUptoCardSaid : Prop := Claim7.holds Tryd.pinned (.plain (OpenSpec.upto joinDenotesSpec)) joinDenotesUptoCard

/-- THE SECOND FORM's CARD OF 'kenninglaw09.VectorCanon'. -/
def vectorCanonUptoCard : Claim7 := { stood := { row := vectorCanonUptoRow, standIns := [], harness := (true, "703c1c40f94a878e48025fd73f50fd4e9e7fc5f1a76af3db0ee3f19cd1c2bb63"), looks := true }, kinds := [], alts := [], laidByText := true, laidKinds := [.handle], laidTests := true, laidLooks := .later }
def VectorCanonUptoCardSaid : Prop := Claim7.holds Tryd.pinned (.plain (OpenSpec.upto vectorCanonSpec)) vectorCanonUptoCard

/-- THE SECOND FORM's CARD OF 'kenninglaw09.VectorKeeps'. -/
def vectorKeepsUptoCard : Claim7 := { stood := { row := vectorKeepsUptoRow, standIns := [], harness := (true, "703c1c40f94a878e48025fd73f50fd4e9e7fc5f1a76af3db0ee3f19cd1c2bb63"), looks := true }, kinds := [], alts := [], laidByText := true, laidKinds := [.handle], laidTests := true, laidLooks := .later }
def VectorKeepsUptoCardSaid : Prop := Claim7.holds Tryd.pinned (.plain (OpenSpec.upto vectorKeepsSpec)) vectorKeepsUptoCard
end Rows
end Go.Proofs.YtcedofkenfddkaaDoor
