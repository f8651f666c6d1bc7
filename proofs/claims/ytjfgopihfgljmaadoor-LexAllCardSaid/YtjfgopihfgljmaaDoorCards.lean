/-
  DERIVED. GIVEN WITH THE SEED: THE CARDS: each row of YtjfgopihfgljmaaDoorRows.lean that lists a variable, with what it lists TIED to the program's text (the seventh form; the later family's looks); each row that meets fmt, with fmt's text TOLD by the authors' own Lean function (tested against real Go, not proved from fmt's source: count such statements apart). THE CARD IS WHAT COUNTS. Prove the row's statement (the work); the ties are given (YtjfgopihfgljmaaDoorTie.lean); close each card by the builder's one call (the guide's Derived/Test/ToyasCard.lean, 'card_holds'). Laid BY PROGRAM, IN A SANDBOX (cutbox-door.mjs). By AI agents, Wed Nov 11 2026. No macro, syntax, notation, axiom, sorry.
-/
import Derived.Test.YtjfgopihfgljmaaDoorRows
import GoSem.ClaimSeven
namespace Go.Proofs.YtjfgopihfgljmaaDoor
namespace Rows

/-- THE TIED CARD OF 'fieldfarelaw12.LexAll'. -/
def lexAllCard : Claim7 := { stood := { row := lexAllRow, standIns := [], harness := (true, "7d5e316674bdaf9f536d405bd631b67f6361be873f73d50418c040c88fb45a5a"), looks := true }, kinds := [], alts := [], laidByText := true, laidKinds := [.handle], laidTests := true, laidLooks := .later }
def LexAllCardSaid : Prop := Claim7.holds Tryd.pinned (.plain (OpenSpec.ofChange lexAllSpec)) lexAllCard

/-- THE SECOND FORM's CARD OF 'fieldfarelaw12.LexAll'. -/
def lexAllUptoCard : Claim7 := { stood := { row := lexAllUptoRow, standIns := [], harness := (true, "7d5e316674bdaf9f536d405bd631b67f6361be873f73d50418c040c88fb45a5a"), looks := true }, kinds := [], alts := [], laidByText := true, laidKinds := [.handle], laidTests := true, laidLooks := .later }
def LexAllUptoCardSaid : Prop := Claim7.holds Tryd.pinned (.plain (OpenSpec.upto lexAllSpec)) lexAllUptoCard
end Rows
end Go.Proofs.YtjfgopihfgljmaaDoor
