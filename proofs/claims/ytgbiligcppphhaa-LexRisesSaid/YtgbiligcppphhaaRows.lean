/-
  No cell of these rows narrows 'for every input' (looked for: loops, veiled, ifaces, maps, wideKeys, modest, calm, conditions, laid).
  DERIVED. THE GIVEN ROWS OF THIS SEAT. 4 by the template 'for every input the law returns true; each argument reads behind the call as it read before'; 0 by the template 'total and deterministic' (their statements: YtgbiligcppphhaaTotals.lean).
  GIVEN WITH THE SEED: the statements are not yours to turn. If you find one false, say at which input.
  Laid BY PROGRAM, IN A SANDBOX (cutbox-rows.mjs): the forced cells as the released guide's own fill.sh prints them over the translation 0463833a72505c6e… (all of the seat's roots in one cut). By AI agents, Wed Nov 11 2026. No macro, syntax, notation, axiom, sorry.
-/
import Derived.Test.YtgbiligcppphhaaChecked
import GoSem.Claim
import GoSem.ClaimJoined
import GoSem.ClaimMapViews
import Derived.JoinedTies
import Derived.KernelRfl
namespace Go.Proofs.Ytgbiligcppphhaa
/- THE CELL 'sum', in the pinned program and in every row, IS THE sha256 OF THE DUMP (.gsa) THAT YtgbiligcppphhaaProg.lean LOADS. Nothing in Lean hashes anything: it is a label: what it is worth is what the hold of that sum in a sandbox is worth. -/
noncomputable def Try.pinned : Pinned := { name := "ytgbiligcppphhaa", sum := "0463833a72505c6e450c06d9994ea685df7b33c34362df09f4d09bdcbad66ab8", checked := Try.checked }
namespace Rows
def none {H : Type} : Left H := { results := [], args := [] }

/-- 'fieldfarelaw12.LexRises': WHATEVER THE INPUT: true; the input reads as it did. -/
def lexRisesSpec : ChangeSpec := { name := "lexRises", fn := fun _ => fun
  | [d] => { results := [.lit (.bool true)], args := [d] }
  | _ => none }
def lexRisesRow : OpenClaim := { program := "ytgbiligcppphhaa", sum := "0463833a72505c6e450c06d9994ea685df7b33c34362df09f4d09bdcbad66ab8", func := "fieldfare/fieldfarelaw12.LexRises", spec := "lexRises", inPlace := ["math/bits.Add64", "internal/bytealg.IndexByteString"], apart := false }
def LexRisesSaid : Prop := lexRisesRow.holds Try.pinned (OpenSpec.ofChange lexRisesSpec)

/-- ITS FALSE NEIGHBOUR: 'it returns false'. Refute it at one input. -/
def lexRisesWrong : ChangeSpec := { name := "lexRises", fn := fun _ => fun
  | [d] => { results := [.lit (.bool false)], args := [d] }
  | _ => none }
def LexRisesWrongFalsely : Prop := lexRisesRow.holds Try.pinned (OpenSpec.ofChange lexRisesWrong)

/-- 'fieldfarelaw12.LexJoins': WHATEVER THE INPUT: true; the input reads as it did. -/
def lexJoinsSpec : ChangeSpec := { name := "lexJoins", fn := fun _ => fun
  | [d1, d2] => { results := [.lit (.bool true)], args := [d1, d2] }
  | _ => none }
def lexJoinsRow : OpenClaim := { program := "ytgbiligcppphhaa", sum := "0463833a72505c6e450c06d9994ea685df7b33c34362df09f4d09bdcbad66ab8", func := "fieldfare/fieldfarelaw12.LexJoins", spec := "lexJoins", inPlace := ["math/bits.Add64", "internal/bytealg.IndexByteString"], apart := false }
def LexJoinsSaid : Prop := lexJoinsRow.holds Try.pinned (OpenSpec.ofChange lexJoinsSpec)

/-- ITS FALSE NEIGHBOUR: 'it returns false'. Refute it at one input. -/
def lexJoinsWrong : ChangeSpec := { name := "lexJoins", fn := fun _ => fun
  | [d1, d2] => { results := [.lit (.bool false)], args := [d1, d2] }
  | _ => none }
def LexJoinsWrongFalsely : Prop := lexJoinsRow.holds Try.pinned (OpenSpec.ofChange lexJoinsWrong)

/-- 'fieldfarelaw12.LexQuotes': WHATEVER THE INPUT: true; the input reads as it did. -/
def lexQuotesSpec : ChangeSpec := { name := "lexQuotes", fn := fun _ => fun
  | [d] => { results := [.lit (.bool true)], args := [d] }
  | _ => none }
def lexQuotesRow : OpenClaim := { program := "ytgbiligcppphhaa", sum := "0463833a72505c6e450c06d9994ea685df7b33c34362df09f4d09bdcbad66ab8", func := "fieldfare/fieldfarelaw12.LexQuotes", spec := "lexQuotes", inPlace := ["math/bits.Add64", "internal/bytealg.IndexByteString"], apart := false }
def LexQuotesSaid : Prop := lexQuotesRow.holds Try.pinned (OpenSpec.ofChange lexQuotesSpec)

/-- ITS FALSE NEIGHBOUR: 'it returns false'. Refute it at one input. -/
def lexQuotesWrong : ChangeSpec := { name := "lexQuotes", fn := fun _ => fun
  | [d] => { results := [.lit (.bool false)], args := [d] }
  | _ => none }
def LexQuotesWrongFalsely : Prop := lexQuotesRow.holds Try.pinned (OpenSpec.ofChange lexQuotesWrong)

/-- 'fieldfarelaw12.LexNames': WHATEVER THE INPUT: true; the input reads as it did. -/
def lexNamesSpec : ChangeSpec := { name := "lexNames", fn := fun _ => fun
  | [d] => { results := [.lit (.bool true)], args := [d] }
  | _ => none }
def lexNamesRow : OpenClaim := { program := "ytgbiligcppphhaa", sum := "0463833a72505c6e450c06d9994ea685df7b33c34362df09f4d09bdcbad66ab8", func := "fieldfare/fieldfarelaw12.LexNames", spec := "lexNames", inPlace := ["math/bits.Add64", "internal/bytealg.IndexByteString"], apart := false }
def LexNamesSaid : Prop := lexNamesRow.holds Try.pinned (OpenSpec.ofChange lexNamesSpec)

/-- ITS FALSE NEIGHBOUR: 'it returns false'. Refute it at one input. -/
def lexNamesWrong : ChangeSpec := { name := "lexNames", fn := fun _ => fun
  | [d] => { results := [.lit (.bool false)], args := [d] }
  | _ => none }
def LexNamesWrongFalsely : Prop := lexNamesRow.holds Try.pinned (OpenSpec.ofChange lexNamesWrong)

/- THE SECOND FORM. 'bulk': how many values and letters a reading holds, each counted each time it is reached (what is shared counts as often as it is met; a slice's spare places count too). A statement '..UptoSaid' is the law's where the arguments, and the package variables that the reading takes, are together of bulk at most 1048576: NARROWER than '..Said'. Prove '..Said' where nothing that the law and all that it calls make is longer than what came in: it says more and counts as full. Else prove '..UptoSaid'. A law counts once. -/
mutual
def uptoBulk {H : Type} : DataW H → Nat
  | .lit (.string bytes) => bytes.length + 1
  | .lit _ => 1
  | .nil => 1
  | .ptr d => uptoBulk d + 1
  | .slice elems spare => uptoBulkAll elems + uptoBulkAll spare + 1
  | .agg parts => uptoBulkAll parts + 1
  | .iface _ d => uptoBulk d + 1
  | .map entries => uptoBulkEntries entries + 1
  | .held _ => 1
def uptoBulkAll {H : Type} : List (DataW H) → Nat
  | [] => 0
  | d :: r => uptoBulk d + uptoBulkAll r
def uptoBulkEntries {H : Type} : List (Lit × DataW H) → Nat
  | [] => 0
  | x :: r => uptoBulkEntry x + uptoBulkEntries r
def uptoBulkEntry {H : Type} : Lit × DataW H → Nat
  | (.string bytes, d) => bytes.length + uptoBulk d + 1
  | (_, d) => uptoBulk d + 1
 end
def uptoSmall : (H : Type) → List (DataW H) → Bool := fun _ ds => decide (uptoBulkAll ds ≤ 1048576)
def OpenSpec.upto (s : _root_.Go.ChangeSpec) : _root_.Go.OpenSpec := { _root_.Go.OpenSpec.ofChange s with cond := some uptoSmall }

/-- 'fieldfarelaw12.LexRises', WHERE WHAT IT READS IS OF BULK AT MOST 1048576: true; the input reads as it did. -/
def lexRisesUptoRow : OpenClaim := { program := "ytgbiligcppphhaa", sum := "0463833a72505c6e450c06d9994ea685df7b33c34362df09f4d09bdcbad66ab8", func := "fieldfare/fieldfarelaw12.LexRises", spec := "lexRises", inPlace := ["math/bits.Add64", "internal/bytealg.IndexByteString"], apart := false, narrowed := true }
def LexRisesUptoSaid : Prop := lexRisesUptoRow.holds Try.pinned (OpenSpec.upto lexRisesSpec)

/-- 'fieldfarelaw12.LexJoins', WHERE WHAT IT READS IS OF BULK AT MOST 1048576: true; the input reads as it did. -/
def lexJoinsUptoRow : OpenClaim := { program := "ytgbiligcppphhaa", sum := "0463833a72505c6e450c06d9994ea685df7b33c34362df09f4d09bdcbad66ab8", func := "fieldfare/fieldfarelaw12.LexJoins", spec := "lexJoins", inPlace := ["math/bits.Add64", "internal/bytealg.IndexByteString"], apart := false, narrowed := true }
def LexJoinsUptoSaid : Prop := lexJoinsUptoRow.holds Try.pinned (OpenSpec.upto lexJoinsSpec)

/-- 'fieldfarelaw12.LexQuotes', WHERE WHAT IT READS IS OF BULK AT MOST 1048576: true; the input reads as it did. -/
def lexQuotesUptoRow : OpenClaim := { program := "ytgbiligcppphhaa", sum := "0463833a72505c6e450c06d9994ea685df7b33c34362df09f4d09bdcbad66ab8", func := "fieldfare/fieldfarelaw12.LexQuotes", spec := "lexQuotes", inPlace := ["math/bits.Add64", "internal/bytealg.IndexByteString"], apart := false, narrowed := true }
def LexQuotesUptoSaid : Prop := lexQuotesUptoRow.holds Try.pinned (OpenSpec.upto lexQuotesSpec)

/-- 'fieldfarelaw12.LexNames', WHERE WHAT IT READS IS OF BULK AT MOST 1048576: true; the input reads as it did. -/
def lexNamesUptoRow : OpenClaim := { program := "ytgbiligcppphhaa", sum := "0463833a72505c6e450c06d9994ea685df7b33c34362df09f4d09bdcbad66ab8", func := "fieldfare/fieldfarelaw12.LexNames", spec := "lexNames", inPlace := ["math/bits.Add64", "internal/bytealg.IndexByteString"], apart := false, narrowed := true }
def LexNamesUptoSaid : Prop := lexNamesUptoRow.holds Try.pinned (OpenSpec.upto lexNamesSpec)

end Rows
end Go.Proofs.Ytgbiligcppphhaa
