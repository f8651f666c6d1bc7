/-
  NARROWER THAN 'FOR EVERY INPUT', by the rows' own cells (each row's printed sentence says how): StepsOfParts: loops.
  DERIVED. THE GIVEN ROWS OF THIS SEAT. 3 by the template 'for every input the law returns true; each argument reads behind the call as it read before'; 0 by the template 'total and deterministic' (their statements: YtkihikphebkepaaTotals.lean).
  GIVEN WITH THE SEED: the statements are not yours to turn. If you find one false, say at which input.
  Laid BY PROGRAM, IN A SANDBOX (cutbox-rows.mjs): the forced cells as the released guide's own fill.sh prints them over the translation cf705b033ea6dab2… (all of the seat's roots in one cut). By AI agents, Wed Nov 11 2026. No macro, syntax, notation, axiom, sorry.
-/
import Derived.Test.YtkihikphebkepaaChecked
import GoSem.Claim
import GoSem.ClaimJoined
import GoSem.ClaimMapViews
import Derived.JoinedTies
import Derived.KernelRfl
namespace Go.Proofs.Ytkihikphebkepaa
/- THE CELL 'sum', in the pinned program and in every row, IS THE sha256 OF THE DUMP (.gsa) THAT YtkihikphebkepaaProg.lean LOADS. Nothing in Lean hashes anything: it is a label: what it is worth is what the hold of that sum in a sandbox is worth. -/
noncomputable def Try.pinned : Pinned := { name := "ytkihikphebkepaa", sum := "cf705b033ea6dab2134de7a1e757cd619fb9accb137a243331463f33d8049592", checked := Try.checked }
namespace Rows
def none {H : Type} : Left H := { results := [], args := [] }

/-- 'fieldfarelaw05.StepsValid': WHATEVER THE INPUT: true; the input reads as it did. -/
def stepsValidSpec : ChangeSpec := { name := "stepsValid", fn := fun _ => fun
  | [d] => { results := [.lit (.bool true)], args := [d] }
  | _ => none }
def stepsValidRow : OpenClaim := { program := "ytkihikphebkepaa", sum := "cf705b033ea6dab2134de7a1e757cd619fb9accb137a243331463f33d8049592", func := "fieldfare/fieldfarelaw05.StepsValid", spec := "stepsValid", recurses := true, plainKeys := false, apart := false }
def StepsValidSaid : Prop := stepsValidRow.holds Try.pinned (OpenSpec.ofChange stepsValidSpec)

/-- ITS FALSE NEIGHBOUR: 'it returns false'. Refute it at one input. -/
def stepsValidWrong : ChangeSpec := { name := "stepsValid", fn := fun _ => fun
  | [d] => { results := [.lit (.bool false)], args := [d] }
  | _ => none }
def StepsValidWrongFalsely : Prop := stepsValidRow.holds Try.pinned (OpenSpec.ofChange stepsValidWrong)

/-- 'fieldfarelaw05.StepsOfParts': WHATEVER THE INPUT: true; the input reads as it did. -/
def stepsOfPartsSpec : ChangeSpec := { name := "stepsOfParts", fn := fun _ => fun
  | [d] => { results := [.lit (.bool true)], args := [d] }
  | _ => none }
def stepsOfPartsRow : OpenClaim := { program := "ytkihikphebkepaa", sum := "cf705b033ea6dab2134de7a1e757cd619fb9accb137a243331463f33d8049592", func := "fieldfare/fieldfarelaw05.StepsOfParts", spec := "stepsOfParts", inPlace := ["internal/reflectlite.TypeOf"], unfollowed := true, recurses := true, loops := true, plainKeys := false, apart := false }
def StepsOfPartsSaid : Prop := stepsOfPartsRow.holds Try.pinned (OpenSpec.ofChange stepsOfPartsSpec)

/-- ITS FALSE NEIGHBOUR: 'it returns false'. Refute it at one input. -/
def stepsOfPartsWrong : ChangeSpec := { name := "stepsOfParts", fn := fun _ => fun
  | [d] => { results := [.lit (.bool false)], args := [d] }
  | _ => none }
def StepsOfPartsWrongFalsely : Prop := stepsOfPartsRow.holds Try.pinned (OpenSpec.ofChange stepsOfPartsWrong)

/-- 'fieldfarelaw05.StepsOfTexts': WHATEVER THE INPUT: true; the input reads as it did. -/
def stepsOfTextsSpec : ChangeSpec := { name := "stepsOfTexts", fn := fun _ => fun
  | [d] => { results := [.lit (.bool true)], args := [d] }
  | _ => none }
def stepsOfTextsRow : OpenClaim := { program := "ytkihikphebkepaa", sum := "cf705b033ea6dab2134de7a1e757cd619fb9accb137a243331463f33d8049592", func := "fieldfare/fieldfarelaw05.StepsOfTexts", spec := "stepsOfTexts", inPlace := ["internal/bytealg.IndexByte", "internal/bytealg.Index", "internal/reflectlite.TypeOf"], unfollowed := true, recurses := true, named := ["internal/bytealg.MaxLen"], plainKeys := false, apart := false }
def StepsOfTextsSaid : Prop := stepsOfTextsRow.holds Try.pinned (OpenSpec.ofChange stepsOfTextsSpec)

/-- ITS FALSE NEIGHBOUR: 'it returns false'. Refute it at one input. -/
def stepsOfTextsWrong : ChangeSpec := { name := "stepsOfTexts", fn := fun _ => fun
  | [d] => { results := [.lit (.bool false)], args := [d] }
  | _ => none }
def StepsOfTextsWrongFalsely : Prop := stepsOfTextsRow.holds Try.pinned (OpenSpec.ofChange stepsOfTextsWrong)

/- THE SECOND FORM. 'bulk': how many values and letters a reading holds, each counted each time it is reached (what is shared counts as often as it is met; a slice's spare places count too). A statement '..UptoSaid' is the law's where the arguments, and the package variables that the reading takes, are together of bulk at most 1048576: NARROWER than '..Said'. Prove '..Said' where nothing that the law and all that it calls make is longer than what came in: it says more and counts as full. Else prove '..UptoSaid'. A law counts once. -/
mutual
def uptoBulk {H : Type} : DataW H → Nat
  | .lit (.string bytes) => bytes.length + 1
  | .lit _ => 1
  | .nil => 1
  | .ptr d => uptoBulk d + 1
  | .slice elems spare => uptoBulkAll elems + uptoBulkAll spare + 1
  | .agg parts => uptoBulkAll parts + 1
  | .iface _ d => uptoBulk d + 1
  | .map entries => uptoBulkEntries entries + 1
  | .held _ => 1
def uptoBulkAll {H : Type} : List (DataW H) → Nat
  | [] => 0
  | d :: r => uptoBulk d + uptoBulkAll r
def uptoBulkEntries {H : Type} : List (Lit × DataW H) → Nat
  | [] => 0
  | x :: r => uptoBulkEntry x + uptoBulkEntries r
def uptoBulkEntry {H : Type} : Lit × DataW H → Nat
  | (.string bytes, d) => bytes.length + uptoBulk d + 1
  | (_, d) => uptoBulk d + 1
 end
def uptoSmall : (H : Type) → List (DataW H) → Bool := fun _ ds => decide (uptoBulkAll ds ≤ 1048576)
def OpenSpec.upto (s : _root_.Go.ChangeSpec) : _root_.Go.OpenSpec := { _root_.Go.OpenSpec.ofChange s with cond := some uptoSmall }

/-- 'fieldfarelaw05.StepsValid', WHERE WHAT IT READS IS OF BULK AT MOST 1048576: true; the input reads as it did. -/
def stepsValidUptoRow : OpenClaim := { program := "ytkihikphebkepaa", sum := "cf705b033ea6dab2134de7a1e757cd619fb9accb137a243331463f33d8049592", func := "fieldfare/fieldfarelaw05.StepsValid", spec := "stepsValid", recurses := true, plainKeys := false, apart := false, narrowed := true }
def StepsValidUptoSaid : Prop := stepsValidUptoRow.holds Try.pinned (OpenSpec.upto stepsValidSpec)

/-- 'fieldfarelaw05.StepsOfParts', WHERE WHAT IT READS IS OF BULK AT MOST 1048576: true; the input reads as it did. -/
def stepsOfPartsUptoRow : OpenClaim := { program := "ytkihikphebkepaa", sum := "cf705b033ea6dab2134de7a1e757cd619fb9accb137a243331463f33d8049592", func := "fieldfare/fieldfarelaw05.StepsOfParts", spec := "stepsOfParts", inPlace := ["internal/reflectlite.TypeOf"], unfollowed := true, recurses := true, loops := true, plainKeys := false, apart := false, narrowed := true }
def StepsOfPartsUptoSaid : Prop := stepsOfPartsUptoRow.holds Try.pinned (OpenSpec.upto stepsOfPartsSpec)

/-- 'fieldfarelaw05.StepsOfTexts', WHERE WHAT IT READS IS OF BULK AT MOST 1048576: true; the input reads as it did. -/
def stepsOfTextsUptoRow : OpenClaim := { program := "ytkihikphebkepaa", sum := "cf705b033ea6dab2134de7a1e757cd619fb9accb137a243331463f33d8049592", func := "fieldfare/fieldfarelaw05.StepsOfTexts", spec := "stepsOfTexts", inPlace := ["internal/bytealg.IndexByte", "internal/bytealg.Index", "internal/reflectlite.TypeOf"], unfollowed := true, recurses := true, named := ["internal/bytealg.MaxLen"], plainKeys := false, apart := false, narrowed := true }
def StepsOfTextsUptoSaid : Prop := stepsOfTextsUptoRow.holds Try.pinned (OpenSpec.upto stepsOfTextsSpec)

end Rows
end Go.Proofs.Ytkihikphebkepaa
