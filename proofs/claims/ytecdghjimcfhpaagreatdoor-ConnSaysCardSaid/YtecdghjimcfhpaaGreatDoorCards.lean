/-
  DERIVED. GIVEN WITH THE SEED: THE CARDS: each row of YtecdghjimcfhpaaGreatDoorRows.lean that lists a variable, with what it lists TIED to the program's text (the seventh form; the later family's looks); each row that meets fmt, with fmt's text TOLD by the authors' own Lean function (tested against real Go, not proved from fmt's source: count such statements apart). THE CARD IS WHAT COUNTS. Prove the row's statement (the work); the ties are given (YtecdghjimcfhpaaGreatDoorTie.lean); close each card by the builder's one call (the guide's Derived/Test/ToyasCard.lean, 'card_holds'). Laid BY PROGRAM, IN A SANDBOX (cutbox-door.mjs). By AI agents, Wed Nov 11 2026. No macro, syntax, notation, axiom, sorry.
-/
import Derived.Test.YtecdghjimcfhpaaGreatDoorRows
import GoSem.ClaimSeven
namespace Go.Proofs.YtecdghjimcfhpaaGreatDoor
namespace Rows

/-- THE TIED CARD OF 'fieldfarelaw21.ConnIdles'. -/
def connIdlesCard : Claim7 := { stood := { row := connIdlesRow, standIns := [], harness := (true, "6ec37d1c14f13c7079b41b13b4130cfcb508ca79d8c9cb2f8f3f0dda2fdeab95"), looks := true }, kinds := [], alts := [], laidByText := true, laidKinds := [.handle], laidTests := true, laidLooks := .later }
def ConnIdlesCardSaid : Prop := Claim7.holds Tryz.pinned (.plain (OpenSpec.ofChange connIdlesSpec)) connIdlesCard

/-- THE TIED CARD OF 'fieldfarelaw21.ConnSays'. -/
def connSaysCard : Claim7 := { stood := { row := connSaysRow, standIns := [], harness := (true, "6ec37d1c14f13c7079b41b13b4130cfcb508ca79d8c9cb2f8f3f0dda2fdeab95"), looks := true }, kinds := [], alts := [], laidByText := true, laidKinds := [.handle], laidTests := true, laidLooks := .later }
def ConnSaysCardSaid : Prop := Claim7.holds Tryz.pinned (.plain (OpenSpec.ofChange connSaysSpec)) connSaysCard

/-- THE SECOND FORM's CARD OF 'fieldfarelaw21.ConnIdles'. -/
def connIdlesUptoCard : Claim7 := { stood := { row := connIdlesUptoRow, standIns := [], harness := (true, "6ec37d1c14f13c7079b41b13b4130cfcb508ca79d8c9cb2f8f3f0dda2fdeab95"), looks := true }, kinds := [], alts := [], laidByText := true, laidKinds := [.handle], laidTests := true, laidLooks := .later }
def ConnIdlesUptoCardSaid : Prop := Claim7.holds Tryz.pinned (.plain (OpenSpec.upto connIdlesSpec)) connIdlesUptoCard

/-- THE SECOND FORM's CARD OF 'fieldfarelaw21.ConnSays'. -/
def connSaysUptoCard : Claim7 := { stood := { row := connSaysUptoRow, standIns := [], harness := (true, "6ec37d1c14f13c7079b41b13b4130cfcb508ca79d8c9cb2f8f3f0dda2fdeab95"), looks := true }, kinds := [], alts := [], laidByText := true, laidKinds := [.handle], laidTests := true, laidLooks := .later }
def ConnSaysUptoCardSaid : Prop := Claim7.holds Tryz.pinned (.plain (OpenSpec.upto connSaysSpec)) connSaysUptoCard
end Rows
end Go.Proofs.YtecdghjimcfhpaaGreatDoor
