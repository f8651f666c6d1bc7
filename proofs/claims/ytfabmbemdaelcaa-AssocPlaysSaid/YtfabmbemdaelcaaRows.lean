/-
  No cell of these rows narrows 'for every input' (looked for: loops, veiled, ifaces, maps, wideKeys, modest, calm, conditions, laid).
  DERIVED. THE GIVEN ROWS OF THIS SEAT. 4 by the template 'for every input the law returns true; each argument reads behind the call as it read before'; 0 by the template 'total and deterministic' (their statements: YtfabmbemdaelcaaTotals.lean).
  GIVEN WITH THE SEED: the statements are not yours to turn. If you find one false, say at which input.
  Laid BY PROGRAM, IN A SANDBOX (cutbox-rows.mjs): the forced cells as the released guide's own fill.sh prints them over the translation 4f37bb302d63559e… (all of the seat's roots in one cut). By AI agents, Wed Nov 11 2026. No macro, syntax, notation, axiom, sorry.
-/
import Derived.Test.YtfabmbemdaelcaaChecked
import GoSem.Claim
import GoSem.ClaimJoined
import GoSem.ClaimMapViews
import Derived.JoinedTies
import Derived.KernelRfl
namespace Go.Proofs.Ytfabmbemdaelcaa
/- THE CELL 'sum', in the pinned program and in every row, IS THE sha256 OF THE DUMP (.gsa) THAT YtfabmbemdaelcaaProg.lean LOADS. Nothing in Lean hashes anything: it is a label: what it is worth is what the hold of that sum in a sandbox is worth. -/
noncomputable def Try.pinned : Pinned := { name := "ytfabmbemdaelcaa", sum := "4f37bb302d63559e62647b1f5a9bbbd801d685667d2e4745ecbb7d94ee627461", checked := Try.checked }
namespace Rows
def none {H : Type} : Left H := { results := [], args := [] }

/-- 'fieldfarelaw10.AssocOrder': WHATEVER THE INPUT: true; the input reads as it did. -/
def assocOrderSpec : ChangeSpec := { name := "assocOrder", fn := fun _ => fun
  | [d1, d2, d3] => { results := [.lit (.bool true)], args := [d1, d2, d3] }
  | _ => none }
def assocOrderRow : OpenClaim := { program := "ytfabmbemdaelcaa", sum := "4f37bb302d63559e62647b1f5a9bbbd801d685667d2e4745ecbb7d94ee627461", func := "fieldfare/fieldfarelaw10.AssocOrder", spec := "assocOrder", apart := false }
def AssocOrderSaid : Prop := assocOrderRow.holds Try.pinned (OpenSpec.ofChange assocOrderSpec)

/-- ITS FALSE NEIGHBOUR: 'it returns false'. Refute it at one input. -/
def assocOrderWrong : ChangeSpec := { name := "assocOrder", fn := fun _ => fun
  | [d1, d2, d3] => { results := [.lit (.bool false)], args := [d1, d2, d3] }
  | _ => none }
def AssocOrderWrongFalsely : Prop := assocOrderRow.holds Try.pinned (OpenSpec.ofChange assocOrderWrong)

/-- 'fieldfarelaw10.AssocLast': WHATEVER THE INPUT: true; the input reads as it did. -/
def assocLastSpec : ChangeSpec := { name := "assocLast", fn := fun _ => fun
  | [d1, d2, d3] => { results := [.lit (.bool true)], args := [d1, d2, d3] }
  | _ => none }
def assocLastRow : OpenClaim := { program := "ytfabmbemdaelcaa", sum := "4f37bb302d63559e62647b1f5a9bbbd801d685667d2e4745ecbb7d94ee627461", func := "fieldfare/fieldfarelaw10.AssocLast", spec := "assocLast", apart := false }
def AssocLastSaid : Prop := assocLastRow.holds Try.pinned (OpenSpec.ofChange assocLastSpec)

/-- ITS FALSE NEIGHBOUR: 'it returns false'. Refute it at one input. -/
def assocLastWrong : ChangeSpec := { name := "assocLast", fn := fun _ => fun
  | [d1, d2, d3] => { results := [.lit (.bool false)], args := [d1, d2, d3] }
  | _ => none }
def AssocLastWrongFalsely : Prop := assocLastRow.holds Try.pinned (OpenSpec.ofChange assocLastWrong)

/-- 'fieldfarelaw10.AssocPlays': WHATEVER THE INPUT: true; the input reads as it did. -/
def assocPlaysSpec : ChangeSpec := { name := "assocPlays", fn := fun _ => fun
  | [d1, d2, d3] => { results := [.lit (.bool true)], args := [d1, d2, d3] }
  | _ => none }
def assocPlaysRow : OpenClaim := { program := "ytfabmbemdaelcaa", sum := "4f37bb302d63559e62647b1f5a9bbbd801d685667d2e4745ecbb7d94ee627461", func := "fieldfare/fieldfarelaw10.AssocPlays", spec := "assocPlays", unfollowed := true, recurses := true, apart := false }
def AssocPlaysSaid : Prop := assocPlaysRow.holds Try.pinned (OpenSpec.ofChange assocPlaysSpec)

/-- ITS FALSE NEIGHBOUR: 'it returns false'. Refute it at one input. -/
def assocPlaysWrong : ChangeSpec := { name := "assocPlays", fn := fun _ => fun
  | [d1, d2, d3] => { results := [.lit (.bool false)], args := [d1, d2, d3] }
  | _ => none }
def AssocPlaysWrongFalsely : Prop := assocPlaysRow.holds Try.pinned (OpenSpec.ofChange assocPlaysWrong)

/-- 'fieldfarelaw10.AssocAgain': WHATEVER THE INPUT: true; the input reads as it did. -/
def assocAgainSpec : ChangeSpec := { name := "assocAgain", fn := fun _ => fun
  | [d] => { results := [.lit (.bool true)], args := [d] }
  | _ => none }
def assocAgainRow : OpenClaim := { program := "ytfabmbemdaelcaa", sum := "4f37bb302d63559e62647b1f5a9bbbd801d685667d2e4745ecbb7d94ee627461", func := "fieldfare/fieldfarelaw10.AssocAgain", spec := "assocAgain", unfollowed := true, recurses := true, apart := false }
def AssocAgainSaid : Prop := assocAgainRow.holds Try.pinned (OpenSpec.ofChange assocAgainSpec)

/-- ITS FALSE NEIGHBOUR: 'it returns false'. Refute it at one input. -/
def assocAgainWrong : ChangeSpec := { name := "assocAgain", fn := fun _ => fun
  | [d] => { results := [.lit (.bool false)], args := [d] }
  | _ => none }
def AssocAgainWrongFalsely : Prop := assocAgainRow.holds Try.pinned (OpenSpec.ofChange assocAgainWrong)

/- THE SECOND FORM. 'bulk': how many values and letters a reading holds, each counted each time it is reached (what is shared counts as often as it is met; a slice's spare places count too). A statement '..UptoSaid' is the law's where the arguments, and the package variables that the reading takes, are together of bulk at most 1048576: NARROWER than '..Said'. Prove '..Said' where nothing that the law and all that it calls make is longer than what came in: it says more and counts as full. Else prove '..UptoSaid'. A law counts once. -/
mutual
def uptoBulk {H : Type} : DataW H → Nat
  | .lit (.string bytes) => bytes.length + 1
  | .lit _ => 1
  | .nil => 1
  | .ptr d => uptoBulk d + 1
  | .slice elems spare => uptoBulkAll elems + uptoBulkAll spare + 1
  | .agg parts => uptoBulkAll parts + 1
  | .iface _ d => uptoBulk d + 1
  | .map entries => uptoBulkEntries entries + 1
  | .held _ => 1
def uptoBulkAll {H : Type} : List (DataW H) → Nat
  | [] => 0
  | d :: r => uptoBulk d + uptoBulkAll r
def uptoBulkEntries {H : Type} : List (Lit × DataW H) → Nat
  | [] => 0
  | x :: r => uptoBulkEntry x + uptoBulkEntries r
def uptoBulkEntry {H : Type} : Lit × DataW H → Nat
  | (.string bytes, d) => bytes.length + uptoBulk d + 1
  | (_, d) => uptoBulk d + 1
 end
def uptoSmall : (H : Type) → List (DataW H) → Bool := fun _ ds => decide (uptoBulkAll ds ≤ 1048576)
def OpenSpec.upto (s : _root_.Go.ChangeSpec) : _root_.Go.OpenSpec := { _root_.Go.OpenSpec.ofChange s with cond := some uptoSmall }

/-- 'fieldfarelaw10.AssocOrder', WHERE WHAT IT READS IS OF BULK AT MOST 1048576: true; the input reads as it did. -/
def assocOrderUptoRow : OpenClaim := { program := "ytfabmbemdaelcaa", sum := "4f37bb302d63559e62647b1f5a9bbbd801d685667d2e4745ecbb7d94ee627461", func := "fieldfare/fieldfarelaw10.AssocOrder", spec := "assocOrder", apart := false, narrowed := true }
def AssocOrderUptoSaid : Prop := assocOrderUptoRow.holds Try.pinned (OpenSpec.upto assocOrderSpec)

/-- 'fieldfarelaw10.AssocLast', WHERE WHAT IT READS IS OF BULK AT MOST 1048576: true; the input reads as it did. -/
def assocLastUptoRow : OpenClaim := { program := "ytfabmbemdaelcaa", sum := "4f37bb302d63559e62647b1f5a9bbbd801d685667d2e4745ecbb7d94ee627461", func := "fieldfare/fieldfarelaw10.AssocLast", spec := "assocLast", apart := false, narrowed := true }
def AssocLastUptoSaid : Prop := assocLastUptoRow.holds Try.pinned (OpenSpec.upto assocLastSpec)

/-- 'fieldfarelaw10.AssocPlays', WHERE WHAT IT READS IS OF BULK AT MOST 1048576: true; the input reads as it did. -/
def assocPlaysUptoRow : OpenClaim := { program := "ytfabmbemdaelcaa", sum := "4f37bb302d63559e62647b1f5a9bbbd801d685667d2e4745ecbb7d94ee627461", func := "fieldfare/fieldfarelaw10.AssocPlays", spec := "assocPlays", unfollowed := true, recurses := true, apart := false, narrowed := true }
def AssocPlaysUptoSaid : Prop := assocPlaysUptoRow.holds Try.pinned (OpenSpec.upto assocPlaysSpec)

/-- 'fieldfarelaw10.AssocAgain', WHERE WHAT IT READS IS OF BULK AT MOST 1048576: true; the input reads as it did. -/
def assocAgainUptoRow : OpenClaim := { program := "ytfabmbemdaelcaa", sum := "4f37bb302d63559e62647b1f5a9bbbd801d685667d2e4745ecbb7d94ee627461", func := "fieldfare/fieldfarelaw10.AssocAgain", spec := "assocAgain", unfollowed := true, recurses := true, apart := false, narrowed := true }
def AssocAgainUptoSaid : Prop := assocAgainUptoRow.holds Try.pinned (OpenSpec.upto assocAgainSpec)

end Rows
end Go.Proofs.Ytfabmbemdaelcaa
