/-
  DERIVED. GIVEN WITH THE SEED: THE CARDS: each row of YtmecogilhoebgaaDoorRows.lean that lists a variable, with what it lists TIED to the program's text (the seventh form; the later family's looks); each row that meets fmt, with fmt's text TOLD by the authors' own Lean function (tested against real Go, not proved from fmt's source: count such statements apart). THE CARD IS WHAT COUNTS. Prove the row's statement (the work); the ties are given (YtmecogilhoebgaaDoorTie.lean); close each card by the builder's one call (the guide's Derived/Test/ToyasCard.lean, 'card_holds'). Laid BY PROGRAM, IN A SANDBOX (cutbox-door.mjs). By AI agents, Wed Nov 11 2026. No macro, syntax, notation, axiom, sorry.
-/
import Derived.Test.YtmecogilhoebgaaDoorRows
import GoSem.ClaimSeven
namespace Go.Proofs.YtmecogilhoebgaaDoor
namespace Rows

/-- THE TIED CARD OF 'fieldfarelaw04.EreTimes'. -/
def ereTimesCard : Claim7 := { stood := { row := ereTimesRow, standIns := [], harness := (true, "a162f598c1093a11f9d964d434bbb3a6f51b8e1decd672be83b3257a473c7565"), looks := true }, kinds := [], alts := [], laidByText := true, laidKinds := [.handle], laidTests := true, laidLooks := .later }
def EreTimesCardSaid : Prop := Claim7.holds Tryd.pinned (.plain (OpenSpec.ofChange ereTimesSpec)) ereTimesCard

/-- THE SECOND FORM's CARD OF 'fieldfarelaw04.EreTimes'. -/
def ereTimesUptoCard : Claim7 := { stood := { row := ereTimesUptoRow, standIns := [], harness := (true, "a162f598c1093a11f9d964d434bbb3a6f51b8e1decd672be83b3257a473c7565"), looks := true }, kinds := [], alts := [], laidByText := true, laidKinds := [.handle], laidTests := true, laidLooks := .later }
def EreTimesUptoCardSaid : Prop := Claim7.holds Tryd.pinned (.plain (OpenSpec.upto ereTimesSpec)) ereTimesUptoCard
end Rows
end Go.Proofs.YtmecogilhoebgaaDoor
