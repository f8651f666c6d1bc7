/-
  DERIVED. GIVEN WITH THE SEED: THE CARDS: each row of YteofhjegaaoglaaDoorRows.lean that lists a variable, with what it lists TIED to the program's text (the seventh form; the later family's looks); each row that meets fmt, with fmt's text TOLD by the authors' own Lean function (tested against real Go, not proved from fmt's source: count such statements apart). THE CARD IS WHAT COUNTS. Prove the row's statement (the work); the ties are given (YteofhjegaaoglaaDoorTie.lean); close each card by the builder's one call (the guide's Derived/Test/ToyasCard.lean, 'card_holds'). Laid BY PROGRAM, IN A SANDBOX (cutbox-door.mjs). By AI agents, Wed Nov 11 2026. No macro, syntax, notation, axiom, sorry.
-/
import Derived.Test.YteofhjegaaoglaaDoorRows
import GoSem.ClaimSeven
namespace Go.Proofs.YteofhjegaaoglaaDoor
namespace Rows

/-- THE TIED CARD OF 'fieldfarelaw07.WordsSplits'. -/
def wordsSplitsCard : Claim7 := { stood := { row := wordsSplitsRow, standIns := [], harness := (true, "06c89620fb609eed1e8a25e4f49558a9181cb85a7c41d1e520582baccea37f01"), looks := false }, kinds := [], alts := [], laidByText := true, laidKinds := [.data, .pinned], laidTests := true, laidLooks := .later }
def WordsSplitsCardSaid : Prop := Claim7.holds Tryd.pinned (.plain (OpenSpec.ofChange wordsSplitsSpec)) wordsSplitsCard

/-- THE SECOND FORM's CARD OF 'fieldfarelaw07.WordsSplits'. -/
def wordsSplitsUptoCard : Claim7 := { stood := { row := wordsSplitsUptoRow, standIns := [], harness := (true, "06c89620fb609eed1e8a25e4f49558a9181cb85a7c41d1e520582baccea37f01"), looks := false }, kinds := [], alts := [], laidByText := true, laidKinds := [.data, .pinned], laidTests := true, laidLooks := .later }
def WordsSplitsUptoCardSaid : Prop := Claim7.holds Tryd.pinned (.plain (OpenSpec.upto wordsSplitsSpec)) wordsSplitsUptoCard
end Rows
end Go.Proofs.YteofhjegaaoglaaDoor
