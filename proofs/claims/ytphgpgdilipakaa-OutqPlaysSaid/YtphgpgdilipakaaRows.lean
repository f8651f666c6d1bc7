/-
  No cell of these rows narrows 'for every input' (looked for: loops, veiled, ifaces, maps, wideKeys, modest, calm, conditions, laid).
  DERIVED. THE GIVEN ROWS OF THIS SEAT. 3 by the template 'for every input the law returns true; each argument reads behind the call as it read before'; 0 by the template 'total and deterministic' (their statements: YtphgpgdilipakaaTotals.lean).
  GIVEN WITH THE SEED: the statements are not yours to turn. If you find one false, say at which input.
  Laid BY PROGRAM, IN A SANDBOX (cutbox-rows.mjs): the forced cells as the released guide's own fill.sh prints them over the translation 66bed3f018746e45… (all of the seat's roots in one cut). By AI agents, Wed Nov 11 2026. No macro, syntax, notation, axiom, sorry.
-/
import Derived.Test.YtphgpgdilipakaaChecked
import GoSem.Claim
import GoSem.ClaimJoined
import GoSem.ClaimMapViews
import Derived.JoinedTies
import Derived.KernelRfl
namespace Go.Proofs.Ytphgpgdilipakaa
/- THE CELL 'sum', in the pinned program and in every row, IS THE sha256 OF THE DUMP (.gsa) THAT YtphgpgdilipakaaProg.lean LOADS. Nothing in Lean hashes anything: it is a label: what it is worth is what the hold of that sum in a sandbox is worth. -/
noncomputable def Try.pinned : Pinned := { name := "ytphgpgdilipakaa", sum := "66bed3f018746e453e9808ebcf3247221b0c5342c5f65ceffa9ac71e591240c8", checked := Try.checked }
namespace Rows
def none {H : Type} : Left H := { results := [], args := [] }

/-- 'fieldfarelaw19.OutqOrder': WHATEVER THE INPUT: true; the input reads as it did. -/
def outqOrderSpec : ChangeSpec := { name := "outqOrder", fn := fun _ => fun
  | [d1, d2, d3, d4] => { results := [.lit (.bool true)], args := [d1, d2, d3, d4] }
  | _ => none }
def outqOrderRow : OpenClaim := { program := "ytphgpgdilipakaa", sum := "66bed3f018746e453e9808ebcf3247221b0c5342c5f65ceffa9ac71e591240c8", func := "fieldfare/fieldfarelaw19.OutqOrder", spec := "outqOrder", apart := false }
def OutqOrderSaid : Prop := outqOrderRow.holds Try.pinned (OpenSpec.ofChange outqOrderSpec)

/-- ITS FALSE NEIGHBOUR: 'it returns false'. Refute it at one input. -/
def outqOrderWrong : ChangeSpec := { name := "outqOrder", fn := fun _ => fun
  | [d1, d2, d3, d4] => { results := [.lit (.bool false)], args := [d1, d2, d3, d4] }
  | _ => none }
def OutqOrderWrongFalsely : Prop := outqOrderRow.holds Try.pinned (OpenSpec.ofChange outqOrderWrong)

/-- 'fieldfarelaw19.OutqFull': WHATEVER THE INPUT: true; the input reads as it did. -/
def outqFullSpec : ChangeSpec := { name := "outqFull", fn := fun _ => fun
  | [d1, d2, d3] => { results := [.lit (.bool true)], args := [d1, d2, d3] }
  | _ => none }
def outqFullRow : OpenClaim := { program := "ytphgpgdilipakaa", sum := "66bed3f018746e453e9808ebcf3247221b0c5342c5f65ceffa9ac71e591240c8", func := "fieldfare/fieldfarelaw19.OutqFull", spec := "outqFull", inPlace := ["internal/reflectlite.TypeOf"], unfollowed := true, recurses := true, apart := false }
def OutqFullSaid : Prop := outqFullRow.holds Try.pinned (OpenSpec.ofChange outqFullSpec)

/-- ITS FALSE NEIGHBOUR: 'it returns false'. Refute it at one input. -/
def outqFullWrong : ChangeSpec := { name := "outqFull", fn := fun _ => fun
  | [d1, d2, d3] => { results := [.lit (.bool false)], args := [d1, d2, d3] }
  | _ => none }
def OutqFullWrongFalsely : Prop := outqFullRow.holds Try.pinned (OpenSpec.ofChange outqFullWrong)

/-- 'fieldfarelaw19.OutqPlays': WHATEVER THE INPUT: true; the input reads as it did. -/
def outqPlaysSpec : ChangeSpec := { name := "outqPlays", fn := fun _ => fun
  | [d1, d2, d3, d4, d5] => { results := [.lit (.bool true)], args := [d1, d2, d3, d4, d5] }
  | _ => none }
def outqPlaysRow : OpenClaim := { program := "ytphgpgdilipakaa", sum := "66bed3f018746e453e9808ebcf3247221b0c5342c5f65ceffa9ac71e591240c8", func := "fieldfare/fieldfarelaw19.OutqPlays", spec := "outqPlays", inPlace := ["internal/reflectlite.TypeOf"], unfollowed := true, recurses := true, apart := false }
def OutqPlaysSaid : Prop := outqPlaysRow.holds Try.pinned (OpenSpec.ofChange outqPlaysSpec)

/-- ITS FALSE NEIGHBOUR: 'it returns false'. Refute it at one input. -/
def outqPlaysWrong : ChangeSpec := { name := "outqPlays", fn := fun _ => fun
  | [d1, d2, d3, d4, d5] => { results := [.lit (.bool false)], args := [d1, d2, d3, d4, d5] }
  | _ => none }
def OutqPlaysWrongFalsely : Prop := outqPlaysRow.holds Try.pinned (OpenSpec.ofChange outqPlaysWrong)

/- THE SECOND FORM. 'bulk': how many values and letters a reading holds, each counted each time it is reached (what is shared counts as often as it is met; a slice's spare places count too). A statement '..UptoSaid' is the law's where the arguments, and the package variables that the reading takes, are together of bulk at most 1048576: NARROWER than '..Said'. Prove '..Said' where nothing that the law and all that it calls make is longer than what came in: it says more and counts as full. Else prove '..UptoSaid'. A law counts once. -/
mutual
def uptoBulk {H : Type} : DataW H → Nat
  | .lit (.string bytes) => bytes.length + 1
  | .lit _ => 1
  | .nil => 1
  | .ptr d => uptoBulk d + 1
  | .slice elems spare => uptoBulkAll elems + uptoBulkAll spare + 1
  | .agg parts => uptoBulkAll parts + 1
  | .iface _ d => uptoBulk d + 1
  | .map entries => uptoBulkEntries entries + 1
  | .held _ => 1
def uptoBulkAll {H : Type} : List (DataW H) → Nat
  | [] => 0
  | d :: r => uptoBulk d + uptoBulkAll r
def uptoBulkEntries {H : Type} : List (Lit × DataW H) → Nat
  | [] => 0
  | x :: r => uptoBulkEntry x + uptoBulkEntries r
def uptoBulkEntry {H : Type} : Lit × DataW H → Nat
  | (.string bytes, d) => bytes.length + uptoBulk d + 1
  | (_, d) => uptoBulk d + 1
 end
def uptoSmall : (H : Type) → List (DataW H) → Bool := fun _ ds => decide (uptoBulkAll ds ≤ 1048576)
def OpenSpec.upto (s : _root_.Go.ChangeSpec) : _root_.Go.OpenSpec := { _root_.Go.OpenSpec.ofChange s with cond := some uptoSmall }

/-- 'fieldfarelaw19.OutqOrder', WHERE WHAT IT READS IS OF BULK AT MOST 1048576: true; the input reads as it did. -/
def outqOrderUptoRow : OpenClaim := { program := "ytphgpgdilipakaa", sum := "66bed3f018746e453e9808ebcf3247221b0c5342c5f65ceffa9ac71e591240c8", func := "fieldfare/fieldfarelaw19.OutqOrder", spec := "outqOrder", apart := false, narrowed := true }
def OutqOrderUptoSaid : Prop := outqOrderUptoRow.holds Try.pinned (OpenSpec.upto outqOrderSpec)

/-- 'fieldfarelaw19.OutqFull', WHERE WHAT IT READS IS OF BULK AT MOST 1048576: true; the input reads as it did. -/
def outqFullUptoRow : OpenClaim := { program := "ytphgpgdilipakaa", sum := "66bed3f018746e453e9808ebcf3247221b0c5342c5f65ceffa9ac71e591240c8", func := "fieldfare/fieldfarelaw19.OutqFull", spec := "outqFull", inPlace := ["internal/reflectlite.TypeOf"], unfollowed := true, recurses := true, apart := false, narrowed := true }
def OutqFullUptoSaid : Prop := outqFullUptoRow.holds Try.pinned (OpenSpec.upto outqFullSpec)

/-- 'fieldfarelaw19.OutqPlays', WHERE WHAT IT READS IS OF BULK AT MOST 1048576: true; the input reads as it did. -/
def outqPlaysUptoRow : OpenClaim := { program := "ytphgpgdilipakaa", sum := "66bed3f018746e453e9808ebcf3247221b0c5342c5f65ceffa9ac71e591240c8", func := "fieldfare/fieldfarelaw19.OutqPlays", spec := "outqPlays", inPlace := ["internal/reflectlite.TypeOf"], unfollowed := true, recurses := true, apart := false, narrowed := true }
def OutqPlaysUptoSaid : Prop := outqPlaysUptoRow.holds Try.pinned (OpenSpec.upto outqPlaysSpec)

end Rows
end Go.Proofs.Ytphgpgdilipakaa
