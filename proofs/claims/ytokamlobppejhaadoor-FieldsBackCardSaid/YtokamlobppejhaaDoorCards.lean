/-
  DERIVED. GIVEN WITH THE SEED: THE CARDS: each row of YtokamlobppejhaaDoorRows.lean that lists a variable, with what it lists TIED to the program's text (the seventh form; the later family's looks); each row that meets fmt, with fmt's text TOLD by the authors' own Lean function (tested against real Go, not proved from fmt's source: count such statements apart). THE CARD IS WHAT COUNTS. Prove the row's statement (the work); the ties are given (YtokamlobppejhaaDoorTie.lean); close each card by the builder's one call (the guide's Derived/Test/ToyasCard.lean, 'card_holds'). Laid BY PROGRAM, IN A SANDBOX (cutbox-door.mjs). By AI agents, Wed Nov 11 2026. No macro, syntax, notation, axiom, sorry.
-/
import Derived.Test.YtokamlobppejhaaDoorRows
import GoSem.ClaimSeven
namespace Go.Proofs.YtokamlobppejhaaDoor
namespace Rows

/-- THE TIED CARD OF 'fieldfarelaw11.FieldsText'. -/
def fieldsTextCard : Claim7 := { stood := { row := fieldsTextRow, standIns := [], harness := (true, "4a58976611005a0ea1e27b40a0e1030ec205555d1cf3d1c198d6d870833f7460"), looks := false }, kinds := [], alts := [], laidByText := true, laidKinds := [.data, .pinned], laidTests := true, laidLooks := .later }
def FieldsTextCardSaid : Prop := Claim7.holds Tryd.pinned (.plain (OpenSpec.ofChange fieldsTextSpec)) fieldsTextCard

/-- THE TIED CARD OF 'fieldfarelaw11.FieldsNone'. -/
def fieldsNoneCard : Claim7 := { stood := { row := fieldsNoneRow, standIns := [], harness := (true, "4a58976611005a0ea1e27b40a0e1030ec205555d1cf3d1c198d6d870833f7460"), looks := false }, kinds := [], alts := [], laidByText := true, laidKinds := [.data, .pinned], laidTests := true, laidLooks := .later }
def FieldsNoneCardSaid : Prop := Claim7.holds Tryd.pinned (.plain (OpenSpec.ofChange fieldsNoneSpec)) fieldsNoneCard

/-- THE TIED CARD OF 'fieldfarelaw11.FieldsBack'. -/
def fieldsBackCard : Claim7 := { stood := { row := fieldsBackRow, standIns := [], harness := (true, "4a58976611005a0ea1e27b40a0e1030ec205555d1cf3d1c198d6d870833f7460"), looks := false }, kinds := [], alts := [], laidByText := true, laidKinds := [.data, .pinned], laidTests := true, laidLooks := .later }
def FieldsBackCardSaid : Prop := Claim7.holds Tryd.pinned (.plain (OpenSpec.ofChange fieldsBackSpec)) fieldsBackCard

/-- THE SECOND FORM's CARD OF 'fieldfarelaw11.FieldsText'. -/
def fieldsTextUptoCard : Claim7 := { stood := { row := fieldsTextUptoRow, standIns := [], harness := (true, "4a58976611005a0ea1e27b40a0e1030ec205555d1cf3d1c198d6d870833f7460"), looks := false }, kinds := [], alts := [], laidByText := true, laidKinds := [.data, .pinned], laidTests := true, laidLooks := .later }
def FieldsTextUptoCardSaid : Prop := Claim7.holds Tryd.pinned (.plain (OpenSpec.upto fieldsTextSpec)) fieldsTextUptoCard

/-- THE SECOND FORM's CARD OF 'fieldfarelaw11.FieldsNone'. -/
def fieldsNoneUptoCard : Claim7 := { stood := { row := fieldsNoneUptoRow, standIns := [], harness := (true, "4a58976611005a0ea1e27b40a0e1030ec205555d1cf3d1c198d6d870833f7460"), looks := false }, kinds := [], alts := [], laidByText := true, laidKinds := [.data, .pinned], laidTests := true, laidLooks := .later }
def FieldsNoneUptoCardSaid : Prop := Claim7.holds Tryd.pinned (.plain (OpenSpec.upto fieldsNoneSpec)) fieldsNoneUptoCard

/-- THE SECOND FORM's CARD OF 'fieldfarelaw11.FieldsBack'. -/
def fieldsBackUptoCard : Claim7 := { stood := { row := fieldsBackUptoRow, standIns := [], harness := (true, "4a58976611005a0ea1e27b40a0e1030ec205555d1cf3d1c198d6d870833f7460"), looks := false }, kinds := [], alts := [], laidByText := true, laidKinds := [.data, .pinned], laidTests := true, laidLooks := .later }
def FieldsBackUptoCardSaid : Prop := Claim7.holds Tryd.pinned (.plain (OpenSpec.upto fieldsBackSpec)) fieldsBackUptoCard
end Rows
end Go.Proofs.YtokamlobppejhaaDoor
