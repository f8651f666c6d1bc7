/-
  DERIVED. GIVEN WITH THE SEED: THE CARDS: each row of YtfofechcccodeaaGreatDoorRows.lean that lists a variable, with what it lists TIED to the program's text (the seventh form; the later family's looks); each row that meets fmt, with fmt's text TOLD by the authors' own Lean function (tested against real Go, not proved from fmt's source: count such statements apart). THE CARD IS WHAT COUNTS. Prove the row's statement (the work); the ties are given (YtfofechcccodeaaGreatDoorTie.lean); close each card by the builder's one call (the guide's Derived/Test/ToyasCard.lean, 'card_holds'). Laid BY PROGRAM, IN A SANDBOX (cutbox-door.mjs). By AI agents, Wed Nov 11 2026. No macro, syntax, notation, axiom, sorry.
-/
import Derived.Test.YtfofechcccodeaaGreatDoorRows
import GoSem.ClaimSeven
namespace Go.Proofs.YtfofechcccodeaaGreatDoor
namespace Rows

/-- THE TIED CARD OF 'fieldfarelaw11.FieldsPlay'. -/
def fieldsPlayCard : Claim7 := { stood := { row := fieldsPlayRow, standIns := [], harness := (true, "e318c975067bd6ad241be286955421c6e77a17f1caabc5258847d8e72ee69155"), looks := true }, kinds := [], alts := [], laidByText := true, laidKinds := [.data, .handle, .pinned], laidTests := true, laidLooks := .later }
def FieldsPlayCardSaid : Prop := Claim7.holds Tryz.pinned (.plain (OpenSpec.ofChange fieldsPlaySpec)) fieldsPlayCard

/-- THE SECOND FORM's CARD OF 'fieldfarelaw11.FieldsPlay'. -/
def fieldsPlayUptoCard : Claim7 := { stood := { row := fieldsPlayUptoRow, standIns := [], harness := (true, "e318c975067bd6ad241be286955421c6e77a17f1caabc5258847d8e72ee69155"), looks := true }, kinds := [], alts := [], laidByText := true, laidKinds := [.data, .handle, .pinned], laidTests := true, laidLooks := .later }
def FieldsPlayUptoCardSaid : Prop := Claim7.holds Tryz.pinned (.plain (OpenSpec.upto fieldsPlaySpec)) fieldsPlayUptoCard
end Rows
end Go.Proofs.YtfofechcccodeaaGreatDoor
