/-
  DERIVED. GIVEN WITH THE SEED: THE CARDS: each row of YtgcalmefijmhaaaGreatDoorRows.lean that lists a variable, with what it lists TIED to the program's text (the seventh form; the later family's looks); each row that meets fmt, with fmt's text TOLD by the authors' own Lean function (tested against real Go, not proved from fmt's source: count such statements apart). THE CARD IS WHAT COUNTS. Prove the row's statement (the work); the ties are given (YtgcalmefijmhaaaGreatDoorTie.lean); close each card by the builder's one call (the guide's Derived/Test/ToyasCard.lean, 'card_holds'). Laid BY PROGRAM, IN A SANDBOX (cutbox-door.mjs). By AI agents, Wed Nov 11 2026. No macro, syntax, notation, axiom, sorry.
-/
import Derived.Test.YtgcalmefijmhaaaGreatDoorRows
import GoSem.ClaimSeven
namespace Go.Proofs.YtgcalmefijmhaaaGreatDoor
namespace Rows

/-- THE TIED CARD OF 'fieldfarelaw06.MatchNews'. -/
def matchNewsCard : Claim7 := { stood := { row := matchNewsRow, standIns := [], harness := (true, "201f686c4e09c41e56a7230269e9f46a4d1722a04b73bae57e7704dfb01cd018"), looks := true }, kinds := [], alts := [], laidByText := true, laidKinds := [.handle], laidTests := true, laidLooks := .later }
def MatchNewsCardSaid : Prop := Claim7.holds Tryz.pinned (.plain (OpenSpec.ofChange matchNewsSpec)) matchNewsCard

/-- THE SECOND FORM's CARD OF 'fieldfarelaw06.MatchNews'. -/
def matchNewsUptoCard : Claim7 := { stood := { row := matchNewsUptoRow, standIns := [], harness := (true, "201f686c4e09c41e56a7230269e9f46a4d1722a04b73bae57e7704dfb01cd018"), looks := true }, kinds := [], alts := [], laidByText := true, laidKinds := [.handle], laidTests := true, laidLooks := .later }
def MatchNewsUptoCardSaid : Prop := Claim7.holds Tryz.pinned (.plain (OpenSpec.upto matchNewsSpec)) matchNewsUptoCard
end Rows
end Go.Proofs.YtgcalmefijmhaaaGreatDoor
