/-
  No cell of these rows narrows 'for every input' (looked for: loops, veiled, ifaces, maps, wideKeys, modest, calm, conditions, laid).
  DERIVED. THE GIVEN ROWS OF THIS SEAT. 4 by the template 'for every input the law returns true; each argument reads behind the call as it read before'; 0 by the template 'total and deterministic' (their statements: YteofhjegaaoglaaTotals.lean).
  GIVEN WITH THE SEED: the statements are not yours to turn. If you find one false, say at which input.
  Laid BY PROGRAM, IN A SANDBOX (cutbox-rows.mjs): the forced cells as the released guide's own fill.sh prints them over the translation 4332d43e76810732… (all of the seat's roots in one cut). By AI agents, Wed Nov 11 2026. No macro, syntax, notation, axiom, sorry.
-/
import Derived.Test.YteofhjegaaoglaaChecked
import GoSem.Claim
import GoSem.ClaimJoined
import GoSem.ClaimMapViews
import Derived.JoinedTies
import Derived.KernelRfl
namespace Go.Proofs.Yteofhjegaaoglaa
/- THE CELL 'sum', in the pinned program and in every row, IS THE sha256 OF THE DUMP (.gsa) THAT YteofhjegaaoglaaProg.lean LOADS. Nothing in Lean hashes anything: it is a label: what it is worth is what the hold of that sum in a sandbox is worth. -/
noncomputable def Try.pinned : Pinned := { name := "yteofhjegaaoglaa", sum := "4332d43e7681073252476c77694ce0621dc1dde0712692f68b48beff2c3507a6", checked := Try.checked }
namespace Rows
def none {H : Type} : Left H := { results := [], args := [] }

/-- 'fieldfarelaw07.WordsThere': WHATEVER THE INPUT: true; the input reads as it did. -/
def wordsThereSpec : ChangeSpec := { name := "wordsThere", fn := fun _ => fun
  | [d1, d2] => { results := [.lit (.bool true)], args := [d1, d2] }
  | _ => none }
def wordsThereRow : OpenClaim := { program := "yteofhjegaaoglaa", sum := "4332d43e7681073252476c77694ce0621dc1dde0712692f68b48beff2c3507a6", func := "fieldfare/fieldfarelaw07.WordsThere", spec := "wordsThere", inPlace := ["internal/bytealg.IndexByte", "internal/bytealg.Index", "internal/bytealg.IndexByteString", "internal/bytealg.IndexString"], unfollowed := true, recurses := true, named := ["internal/bytealg.MaxLen"], plainKeys := false, apart := false }
def WordsThereSaid : Prop := wordsThereRow.holds Try.pinned (OpenSpec.ofChange wordsThereSpec)

/-- ITS FALSE NEIGHBOUR: 'it returns false'. Refute it at one input. -/
def wordsThereWrong : ChangeSpec := { name := "wordsThere", fn := fun _ => fun
  | [d1, d2] => { results := [.lit (.bool false)], args := [d1, d2] }
  | _ => none }
def WordsThereWrongFalsely : Prop := wordsThereRow.holds Try.pinned (OpenSpec.ofChange wordsThereWrong)

/-- 'fieldfarelaw07.WordsParts': WHATEVER THE INPUT: true; the input reads as it did. -/
def wordsPartsSpec : ChangeSpec := { name := "wordsParts", fn := fun _ => fun
  | [d1, d2, d3, d4, d5] => { results := [.lit (.bool true)], args := [d1, d2, d3, d4, d5] }
  | _ => none }
def wordsPartsRow : OpenClaim := { program := "yteofhjegaaoglaa", sum := "4332d43e7681073252476c77694ce0621dc1dde0712692f68b48beff2c3507a6", func := "fieldfare/fieldfarelaw07.WordsParts", spec := "wordsParts", inPlace := ["internal/bytealg.IndexByte", "internal/bytealg.Index", "internal/bytealg.IndexByteString", "internal/bytealg.IndexString"], unfollowed := true, recurses := true, named := ["internal/bytealg.MaxLen"], plainKeys := false, apart := false }
def WordsPartsSaid : Prop := wordsPartsRow.holds Try.pinned (OpenSpec.ofChange wordsPartsSpec)

/-- ITS FALSE NEIGHBOUR: 'it returns false'. Refute it at one input. -/
def wordsPartsWrong : ChangeSpec := { name := "wordsParts", fn := fun _ => fun
  | [d1, d2, d3, d4, d5] => { results := [.lit (.bool false)], args := [d1, d2, d3, d4, d5] }
  | _ => none }
def WordsPartsWrongFalsely : Prop := wordsPartsRow.holds Try.pinned (OpenSpec.ofChange wordsPartsWrong)

/-- 'fieldfarelaw07.WordsStay': WHATEVER THE INPUT: true; the input reads as it did. -/
def wordsStaySpec : ChangeSpec := { name := "wordsStay", fn := fun _ => fun
  | [d1, d2, d3, d4] => { results := [.lit (.bool true)], args := [d1, d2, d3, d4] }
  | _ => none }
def wordsStayRow : OpenClaim := { program := "yteofhjegaaoglaa", sum := "4332d43e7681073252476c77694ce0621dc1dde0712692f68b48beff2c3507a6", func := "fieldfare/fieldfarelaw07.WordsStay", spec := "wordsStay", inPlace := ["internal/bytealg.IndexByte", "internal/bytealg.Index", "internal/bytealg.IndexByteString", "internal/bytealg.IndexString"], unfollowed := true, recurses := true, named := ["internal/bytealg.MaxLen"], plainKeys := false, apart := false }
def WordsStaySaid : Prop := wordsStayRow.holds Try.pinned (OpenSpec.ofChange wordsStaySpec)

/-- ITS FALSE NEIGHBOUR: 'it returns false'. Refute it at one input. -/
def wordsStayWrong : ChangeSpec := { name := "wordsStay", fn := fun _ => fun
  | [d1, d2, d3, d4] => { results := [.lit (.bool false)], args := [d1, d2, d3, d4] }
  | _ => none }
def WordsStayWrongFalsely : Prop := wordsStayRow.holds Try.pinned (OpenSpec.ofChange wordsStayWrong)

/-- 'fieldfarelaw07.WordsHalves': WHATEVER THE INPUT: true; the input reads as it did. -/
def wordsHalvesSpec : ChangeSpec := { name := "wordsHalves", fn := fun _ => fun
  | [d1, d2] => { results := [.lit (.bool true)], args := [d1, d2] }
  | _ => none }
def wordsHalvesRow : OpenClaim := { program := "yteofhjegaaoglaa", sum := "4332d43e7681073252476c77694ce0621dc1dde0712692f68b48beff2c3507a6", func := "fieldfare/fieldfarelaw07.WordsHalves", spec := "wordsHalves", inPlace := ["internal/bytealg.IndexByte", "internal/bytealg.Index", "internal/bytealg.IndexByteString", "internal/bytealg.IndexString"], unfollowed := true, recurses := true, named := ["internal/bytealg.MaxLen"], plainKeys := false, apart := false }
def WordsHalvesSaid : Prop := wordsHalvesRow.holds Try.pinned (OpenSpec.ofChange wordsHalvesSpec)

/-- ITS FALSE NEIGHBOUR: 'it returns false'. Refute it at one input. -/
def wordsHalvesWrong : ChangeSpec := { name := "wordsHalves", fn := fun _ => fun
  | [d1, d2] => { results := [.lit (.bool false)], args := [d1, d2] }
  | _ => none }
def WordsHalvesWrongFalsely : Prop := wordsHalvesRow.holds Try.pinned (OpenSpec.ofChange wordsHalvesWrong)

/- THE SECOND FORM. 'bulk': how many values and letters a reading holds, each counted each time it is reached (what is shared counts as often as it is met; a slice's spare places count too). A statement '..UptoSaid' is the law's where the arguments, and the package variables that the reading takes, are together of bulk at most 1048576: NARROWER than '..Said'. Prove '..Said' where nothing that the law and all that it calls make is longer than what came in: it says more and counts as full. Else prove '..UptoSaid'. A law counts once. -/
mutual
def uptoBulk {H : Type} : DataW H → Nat
  | .lit (.string bytes) => bytes.length + 1
  | .lit _ => 1
  | .nil => 1
  | .ptr d => uptoBulk d + 1
  | .slice elems spare => uptoBulkAll elems + uptoBulkAll spare + 1
  | .agg parts => uptoBulkAll parts + 1
  | .iface _ d => uptoBulk d + 1
  | .map entries => uptoBulkEntries entries + 1
  | .held _ => 1
def uptoBulkAll {H : Type} : List (DataW H) → Nat
  | [] => 0
  | d :: r => uptoBulk d + uptoBulkAll r
def uptoBulkEntries {H : Type} : List (Lit × DataW H) → Nat
  | [] => 0
  | x :: r => uptoBulkEntry x + uptoBulkEntries r
def uptoBulkEntry {H : Type} : Lit × DataW H → Nat
  | (.string bytes, d) => bytes.length + uptoBulk d + 1
  | (_, d) => uptoBulk d + 1
 end
def uptoSmall : (H : Type) → List (DataW H) → Bool := fun _ ds => decide (uptoBulkAll ds ≤ 1048576)
def OpenSpec.upto (s : _root_.Go.ChangeSpec) : _root_.Go.OpenSpec := { _root_.Go.OpenSpec.ofChange s with cond := some uptoSmall }

/-- 'fieldfarelaw07.WordsThere', WHERE WHAT IT READS IS OF BULK AT MOST 1048576: true; the input reads as it did. -/
def wordsThereUptoRow : OpenClaim := { program := "yteofhjegaaoglaa", sum := "4332d43e7681073252476c77694ce0621dc1dde0712692f68b48beff2c3507a6", func := "fieldfare/fieldfarelaw07.WordsThere", spec := "wordsThere", inPlace := ["internal/bytealg.IndexByte", "internal/bytealg.Index", "internal/bytealg.IndexByteString", "internal/bytealg.IndexString"], unfollowed := true, recurses := true, named := ["internal/bytealg.MaxLen"], plainKeys := false, apart := false, narrowed := true }
def WordsThereUptoSaid : Prop := wordsThereUptoRow.holds Try.pinned (OpenSpec.upto wordsThereSpec)

/-- 'fieldfarelaw07.WordsParts', WHERE WHAT IT READS IS OF BULK AT MOST 1048576: true; the input reads as it did. -/
def wordsPartsUptoRow : OpenClaim := { program := "yteofhjegaaoglaa", sum := "4332d43e7681073252476c77694ce0621dc1dde0712692f68b48beff2c3507a6", func := "fieldfare/fieldfarelaw07.WordsParts", spec := "wordsParts", inPlace := ["internal/bytealg.IndexByte", "internal/bytealg.Index", "internal/bytealg.IndexByteString", "internal/bytealg.IndexString"], unfollowed := true, recurses := true, named := ["internal/bytealg.MaxLen"], plainKeys := false, apart := false, narrowed := true }
def WordsPartsUptoSaid : Prop := wordsPartsUptoRow.holds Try.pinned (OpenSpec.upto wordsPartsSpec)

/-- 'fieldfarelaw07.WordsStay', WHERE WHAT IT READS IS OF BULK AT MOST 1048576: true; the input reads as it did. -/
def wordsStayUptoRow : OpenClaim := { program := "yteofhjegaaoglaa", sum := "4332d43e7681073252476c77694ce0621dc1dde0712692f68b48beff2c3507a6", func := "fieldfare/fieldfarelaw07.WordsStay", spec := "wordsStay", inPlace := ["internal/bytealg.IndexByte", "internal/bytealg.Index", "internal/bytealg.IndexByteString", "internal/bytealg.IndexString"], unfollowed := true, recurses := true, named := ["internal/bytealg.MaxLen"], plainKeys := false, apart := false, narrowed := true }
def WordsStayUptoSaid : Prop := wordsStayUptoRow.holds Try.pinned (OpenSpec.upto wordsStaySpec)

/-- 'fieldfarelaw07.WordsHalves', WHERE WHAT IT READS IS OF BULK AT MOST 1048576: true; the input reads as it did. -/
def wordsHalvesUptoRow : OpenClaim := { program := "yteofhjegaaoglaa", sum := "4332d43e7681073252476c77694ce0621dc1dde0712692f68b48beff2c3507a6", func := "fieldfare/fieldfarelaw07.WordsHalves", spec := "wordsHalves", inPlace := ["internal/bytealg.IndexByte", "internal/bytealg.Index", "internal/bytealg.IndexByteString", "internal/bytealg.IndexString"], unfollowed := true, recurses := true, named := ["internal/bytealg.MaxLen"], plainKeys := false, apart := false, narrowed := true }
def WordsHalvesUptoSaid : Prop := wordsHalvesUptoRow.holds Try.pinned (OpenSpec.upto wordsHalvesSpec)

end Rows
end Go.Proofs.Yteofhjegaaoglaa
