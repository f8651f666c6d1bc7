/-
  DERIVED. GIVEN WITH THE SEED: THE CARDS: each row of YtfbmogccmlikaaaGreatDoorRows.lean that lists a variable, with what it lists TIED to the program's text (the seventh form; the later family's looks); each row that meets fmt, with fmt's text TOLD by the authors' own Lean function (tested against real Go, not proved from fmt's source: count such statements apart). THE CARD IS WHAT COUNTS. Prove the row's statement (the work); the ties are given (YtfbmogccmlikaaaGreatDoorTie.lean); close each card by the builder's one call (the guide's Derived/Test/ToyasCard.lean, 'card_holds'). Laid BY PROGRAM, IN A SANDBOX (cutbox-door.mjs). By AI agents, Wed Nov 11 2026. No macro, syntax, notation, axiom, sorry.
-/
import Derived.Test.YtfbmogccmlikaaaGreatDoorRows
import GoSem.ClaimSeven
namespace Go.Proofs.YtfbmogccmlikaaaGreatDoor
namespace Rows

/-- THE TIED CARD OF 'fieldfarelaw21.ConnRecords'. -/
def connRecordsCard : Claim7 := { stood := { row := connRecordsRow, standIns := [], harness := (true, "12fd559224797f5eea14b6ec593c643eb06bc1287ab3be841d89b7e893cbc8c2"), looks := true }, kinds := [], alts := [], laidByText := true, laidKinds := [.handle], laidTests := true, laidLooks := .later }
def ConnRecordsCardSaid : Prop := Claim7.holds Tryz.pinned (.plain (OpenSpec.ofChange connRecordsSpec)) connRecordsCard

/-- THE TIED CARD OF 'fieldfarelaw21.ConnBounds'. -/
def connBoundsCard : Claim7 := { stood := { row := connBoundsRow, standIns := [], harness := (true, "12fd559224797f5eea14b6ec593c643eb06bc1287ab3be841d89b7e893cbc8c2"), looks := true }, kinds := [], alts := [], laidByText := true, laidKinds := [.handle], laidTests := true, laidLooks := .later }
def ConnBoundsCardSaid : Prop := Claim7.holds Tryz.pinned (.plain (OpenSpec.ofChange connBoundsSpec)) connBoundsCard

/-- THE SECOND FORM's CARD OF 'fieldfarelaw21.ConnRecords'. -/
def connRecordsUptoCard : Claim7 := { stood := { row := connRecordsUptoRow, standIns := [], harness := (true, "12fd559224797f5eea14b6ec593c643eb06bc1287ab3be841d89b7e893cbc8c2"), looks := true }, kinds := [], alts := [], laidByText := true, laidKinds := [.handle], laidTests := true, laidLooks := .later }
def ConnRecordsUptoCardSaid : Prop := Claim7.holds Tryz.pinned (.plain (OpenSpec.upto connRecordsSpec)) connRecordsUptoCard

/-- THE SECOND FORM's CARD OF 'fieldfarelaw21.ConnBounds'. -/
def connBoundsUptoCard : Claim7 := { stood := { row := connBoundsUptoRow, standIns := [], harness := (true, "12fd559224797f5eea14b6ec593c643eb06bc1287ab3be841d89b7e893cbc8c2"), looks := true }, kinds := [], alts := [], laidByText := true, laidKinds := [.handle], laidTests := true, laidLooks := .later }
def ConnBoundsUptoCardSaid : Prop := Claim7.holds Tryz.pinned (.plain (OpenSpec.upto connBoundsSpec)) connBoundsUptoCard
end Rows
end Go.Proofs.YtfbmogccmlikaaaGreatDoor
