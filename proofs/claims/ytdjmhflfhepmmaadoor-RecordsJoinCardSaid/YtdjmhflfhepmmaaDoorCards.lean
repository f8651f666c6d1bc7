/-
  DERIVED. GIVEN WITH THE SEED: THE CARDS: each row of YtdjmhflfhepmmaaDoorRows.lean that lists a variable, with what it lists TIED to the program's text (the seventh form; the later family's looks); each row that meets fmt, with fmt's text TOLD by the authors' own Lean function (tested against real Go, not proved from fmt's source: count such statements apart). THE CARD IS WHAT COUNTS. Prove the row's statement (the work); the ties are given (YtdjmhflfhepmmaaDoorTie.lean); close each card by the builder's one call (the guide's Derived/Test/ToyasCard.lean, 'card_holds'). Laid BY PROGRAM, IN A SANDBOX (cutbox-door.mjs). By AI agents, Wed Nov 11 2026. No macro, syntax, notation, axiom, sorry.
-/
import Derived.Test.YtdjmhflfhepmmaaDoorRows
import GoSem.ClaimSeven
namespace Go.Proofs.YtdjmhflfhepmmaaDoor
namespace Rows

/-- THE TIED CARD OF 'fieldfarelaw18.RecordsJoin'. -/
def recordsJoinCard : Claim7 := { stood := { row := recordsJoinRow, standIns := [], harness := (true, "8ef367a7a2c0328a9c3bed0563cc8bb092fb8105373ec6c3e0f23c123c530667"), looks := true }, kinds := [], alts := [], laidByText := true, laidKinds := [.handle], laidTests := true, laidLooks := .later }
def RecordsJoinCardSaid : Prop := Claim7.holds Tryd.pinned (.plain (OpenSpec.ofChange recordsJoinSpec)) recordsJoinCard

/-- THE TIED CARD OF 'fieldfarelaw18.RecordsLines'. -/
def recordsLinesCard : Claim7 := { stood := { row := recordsLinesRow, standIns := [], harness := (true, "8ef367a7a2c0328a9c3bed0563cc8bb092fb8105373ec6c3e0f23c123c530667"), looks := true }, kinds := [], alts := [], laidByText := true, laidKinds := [.handle], laidTests := true, laidLooks := .later }
def RecordsLinesCardSaid : Prop := Claim7.holds Tryd.pinned (.plain (OpenSpec.ofChange recordsLinesSpec)) recordsLinesCard

/-- THE TIED CARD OF 'fieldfarelaw18.RecordsLong'. -/
def recordsLongCard : Claim7 := { stood := { row := recordsLongRow, standIns := [], harness := (true, "8ef367a7a2c0328a9c3bed0563cc8bb092fb8105373ec6c3e0f23c123c530667"), looks := true }, kinds := [], alts := [], laidByText := true, laidKinds := [.handle], laidTests := true, laidLooks := .later }
def RecordsLongCardSaid : Prop := Claim7.holds Tryd.pinned (.plain (OpenSpec.ofChange recordsLongSpec)) recordsLongCard

/-- THE SECOND FORM's CARD OF 'fieldfarelaw18.RecordsJoin'. -/
def recordsJoinUptoCard : Claim7 := { stood := { row := recordsJoinUptoRow, standIns := [], harness := (true, "8ef367a7a2c0328a9c3bed0563cc8bb092fb8105373ec6c3e0f23c123c530667"), looks := true }, kinds := [], alts := [], laidByText := true, laidKinds := [.handle], laidTests := true, laidLooks := .later }
def RecordsJoinUptoCardSaid : Prop := Claim7.holds Tryd.pinned (.plain (OpenSpec.upto recordsJoinSpec)) recordsJoinUptoCard

/-- THE SECOND FORM's CARD OF 'fieldfarelaw18.RecordsLines'. -/
def recordsLinesUptoCard : Claim7 := { stood := { row := recordsLinesUptoRow, standIns := [], harness := (true, "8ef367a7a2c0328a9c3bed0563cc8bb092fb8105373ec6c3e0f23c123c530667"), looks := true }, kinds := [], alts := [], laidByText := true, laidKinds := [.handle], laidTests := true, laidLooks := .later }
def RecordsLinesUptoCardSaid : Prop := Claim7.holds Tryd.pinned (.plain (OpenSpec.upto recordsLinesSpec)) recordsLinesUptoCard

/-- THE SECOND FORM's CARD OF 'fieldfarelaw18.RecordsLong'. -/
def recordsLongUptoCard : Claim7 := { stood := { row := recordsLongUptoRow, standIns := [], harness := (true, "8ef367a7a2c0328a9c3bed0563cc8bb092fb8105373ec6c3e0f23c123c530667"), looks := true }, kinds := [], alts := [], laidByText := true, laidKinds := [.handle], laidTests := true, laidLooks := .later }
def RecordsLongUptoCardSaid : Prop := Claim7.holds Tryd.pinned (.plain (OpenSpec.upto recordsLongSpec)) recordsLongUptoCard
end Rows
end Go.Proofs.YtdjmhflfhepmmaaDoor
