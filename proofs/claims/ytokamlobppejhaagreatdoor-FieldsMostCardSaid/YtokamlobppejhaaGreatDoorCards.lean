/-
  DERIVED. GIVEN WITH THE SEED: THE CARDS: each row of YtokamlobppejhaaGreatDoorRows.lean that lists a variable, with what it lists TIED to the program's text (the seventh form; the later family's looks); each row that meets fmt, with fmt's text TOLD by the authors' own Lean function (tested against real Go, not proved from fmt's source: count such statements apart). THE CARD IS WHAT COUNTS. Prove the row's statement (the work); the ties are given (YtokamlobppejhaaGreatDoorTie.lean); close each card by the builder's one call (the guide's Derived/Test/ToyasCard.lean, 'card_holds'). Laid BY PROGRAM, IN A SANDBOX (cutbox-door.mjs). By AI agents, Wed Nov 11 2026. No macro, syntax, notation, axiom, sorry.
-/
import Derived.Test.YtokamlobppejhaaGreatDoorRows
import GoSem.ClaimSeven
namespace Go.Proofs.YtokamlobppejhaaGreatDoor
namespace Rows

/-- THE TIED CARD OF 'fieldfarelaw11.FieldsMost'. -/
def fieldsMostCard : Claim7 := { stood := { row := fieldsMostRow, standIns := [], harness := (true, "60f43c1079dd7f1a4776d20bdad8d49d95f99bd19dcb81b8a7f58d6ef18a534a"), looks := true }, kinds := [], alts := [], laidByText := true, laidKinds := [.data, .pinned], laidTests := true, laidLooks := .later }
def FieldsMostCardSaid : Prop := Claim7.holds Tryz.pinned (.plain (OpenSpec.ofChange fieldsMostSpec)) fieldsMostCard

/-- THE SECOND FORM's CARD OF 'fieldfarelaw11.FieldsMost'. -/
def fieldsMostUptoCard : Claim7 := { stood := { row := fieldsMostUptoRow, standIns := [], harness := (true, "60f43c1079dd7f1a4776d20bdad8d49d95f99bd19dcb81b8a7f58d6ef18a534a"), looks := true }, kinds := [], alts := [], laidByText := true, laidKinds := [.data, .pinned], laidTests := true, laidLooks := .later }
def FieldsMostUptoCardSaid : Prop := Claim7.holds Tryz.pinned (.plain (OpenSpec.upto fieldsMostSpec)) fieldsMostUptoCard
end Rows
end Go.Proofs.YtokamlobppejhaaGreatDoor
