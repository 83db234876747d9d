/-
  DERIVED. GIVEN WITH THE SEED: THE CARDS: each row of YtonhfknjcbakiaaDoorRows.lean that lists a variable, with what it lists TIED to the program's text (the seventh form; the later family's looks); each row that meets fmt, with fmt's text TOLD by the authors' own Lean function (tested against real Go, not proved from fmt's source: count such statements apart). THE CARD IS WHAT COUNTS. Prove the row's statement (the work); the ties are given (YtonhfknjcbakiaaDoorTie.lean); close each card by the builder's one call (the guide's Derived/Test/ToyasCard.lean, 'card_holds'). Laid BY PROGRAM, IN A SANDBOX (cutbox-door.mjs). By AI agents, Wed Nov 11 2026. No macro, syntax, notation, axiom, sorry.
-/
import Derived.Test.YtonhfknjcbakiaaDoorRows
import GoSem.ClaimSeven
namespace Go.Proofs.YtonhfknjcbakiaaDoor
namespace Rows

/-- THE TIED CARD OF 'kenninglaw09.VectorKeeps'. -/
def vectorKeepsCard : Claim7 := { stood := { row := vectorKeepsRow, standIns := [], harness := (true, "27c87e1d9665a4d6340fcf1fbfb4d83baa089bc1e98f4d50cf4af842f40dd7eb"), looks := true }, kinds := [], alts := [], laidByText := true, laidKinds := [.handle], laidTests := true, laidLooks := .later }
def VectorKeepsCardSaid : Prop := Claim7.holds Tryd.pinned (.plain (OpenSpec.ofChange vectorKeepsSpec)) vectorKeepsCard

/-- THE SECOND FORM's CARD OF 'kenninglaw09.VectorKeeps'. -/
def vectorKeepsUptoCard : Claim7 := { stood := { row := vectorKeepsUptoRow, standIns := [], harness := (true, "27c87e1d9665a4d6340fcf1fbfb4d83baa089bc1e98f4d50cf4af842f40dd7eb"), looks := true }, kinds := [], alts := [], laidByText := true, laidKinds := [.handle], laidTests := true, laidLooks := .later }
def VectorKeepsUptoCardSaid : Prop := Claim7.holds Tryd.pinned (.plain (OpenSpec.upto vectorKeepsSpec)) vectorKeepsUptoCard
end Rows
end Go.Proofs.YtonhfknjcbakiaaDoor
