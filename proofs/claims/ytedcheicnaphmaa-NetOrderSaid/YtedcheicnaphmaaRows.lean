/-
  No cell of these rows narrows 'for every input' (looked for: loops, veiled, ifaces, maps, wideKeys, modest, calm, conditions, laid).
  DERIVED. THE GIVEN ROWS OF THIS SEAT. 4 by the template 'for every input the law returns true; each argument reads behind the call as it read before'; 0 by the template 'total and deterministic' (their statements: YtedcheicnaphmaaTotals.lean).
  GIVEN WITH THE SEED: the statements are not yours to turn. If you find one false, say at which input.
  Laid BY PROGRAM, IN A SANDBOX (cutbox-rows.mjs): the forced cells as the released guide's own fill.sh prints them over the translation d99d085acbbb23ed… (all of the seat's roots in one cut). By AI agents, Wed Nov 11 2026. No macro, syntax, notation, axiom, sorry.
-/
import Derived.Test.YtedcheicnaphmaaChecked
import GoSem.Claim
import GoSem.ClaimJoined
import GoSem.ClaimMapViews
import Derived.JoinedTies
import Derived.KernelRfl
namespace Go.Proofs.Ytedcheicnaphmaa
/- THE CELL 'sum', in the pinned program and in every row, IS THE sha256 OF THE DUMP (.gsa) THAT YtedcheicnaphmaaProg.lean LOADS. Nothing in Lean hashes anything: it is a label: what it is worth is what the hold of that sum in a sandbox is worth. -/
noncomputable def Try.pinned : Pinned := { name := "ytedcheicnaphmaa", sum := "d99d085acbbb23edea7230481799742811fc4c1281fa05d9b942db569ed96b9d", checked := Try.checked }
namespace Rows
def none {H : Type} : Left H := { results := [], args := [] }

/-- 'fieldfarelaw20.NetAccepts': WHATEVER THE INPUT: true; the input reads as it did. -/
def netAcceptsSpec : ChangeSpec := { name := "netAccepts", fn := fun _ => fun
  | [d] => { results := [.lit (.bool true)], args := [d] }
  | _ => none }
def netAcceptsRow : OpenClaim := { program := "ytedcheicnaphmaa", sum := "d99d085acbbb23edea7230481799742811fc4c1281fa05d9b942db569ed96b9d", func := "fieldfare/fieldfarelaw20.NetAccepts", spec := "netAccepts", apart := false }
def NetAcceptsSaid : Prop := netAcceptsRow.holds Try.pinned (OpenSpec.ofChange netAcceptsSpec)

/-- ITS FALSE NEIGHBOUR: 'it returns false'. Refute it at one input. -/
def netAcceptsWrong : ChangeSpec := { name := "netAccepts", fn := fun _ => fun
  | [d] => { results := [.lit (.bool false)], args := [d] }
  | _ => none }
def NetAcceptsWrongFalsely : Prop := netAcceptsRow.holds Try.pinned (OpenSpec.ofChange netAcceptsWrong)

/-- 'fieldfarelaw20.NetWindows': WHATEVER THE INPUT: true; the input reads as it did. -/
def netWindowsSpec : ChangeSpec := { name := "netWindows", fn := fun _ => fun
  | [d1, d2] => { results := [.lit (.bool true)], args := [d1, d2] }
  | _ => none }
def netWindowsRow : OpenClaim := { program := "ytedcheicnaphmaa", sum := "d99d085acbbb23edea7230481799742811fc4c1281fa05d9b942db569ed96b9d", func := "fieldfare/fieldfarelaw20.NetWindows", spec := "netWindows", apart := false }
def NetWindowsSaid : Prop := netWindowsRow.holds Try.pinned (OpenSpec.ofChange netWindowsSpec)

/-- ITS FALSE NEIGHBOUR: 'it returns false'. Refute it at one input. -/
def netWindowsWrong : ChangeSpec := { name := "netWindows", fn := fun _ => fun
  | [d1, d2] => { results := [.lit (.bool false)], args := [d1, d2] }
  | _ => none }
def NetWindowsWrongFalsely : Prop := netWindowsRow.holds Try.pinned (OpenSpec.ofChange netWindowsWrong)

/-- 'fieldfarelaw20.NetOrder': WHATEVER THE INPUT: true; the input reads as it did. -/
def netOrderSpec : ChangeSpec := { name := "netOrder", fn := fun _ => fun
  | [d] => { results := [.lit (.bool true)], args := [d] }
  | _ => none }
def netOrderRow : OpenClaim := { program := "ytedcheicnaphmaa", sum := "d99d085acbbb23edea7230481799742811fc4c1281fa05d9b942db569ed96b9d", func := "fieldfare/fieldfarelaw20.NetOrder", spec := "netOrder", apart := false }
def NetOrderSaid : Prop := netOrderRow.holds Try.pinned (OpenSpec.ofChange netOrderSpec)

/-- ITS FALSE NEIGHBOUR: 'it returns false'. Refute it at one input. -/
def netOrderWrong : ChangeSpec := { name := "netOrder", fn := fun _ => fun
  | [d] => { results := [.lit (.bool false)], args := [d] }
  | _ => none }
def NetOrderWrongFalsely : Prop := netOrderRow.holds Try.pinned (OpenSpec.ofChange netOrderWrong)

/-- 'fieldfarelaw20.NetEnds': WHATEVER THE INPUT: true; the input reads as it did. -/
def netEndsSpec : ChangeSpec := { name := "netEnds", fn := fun _ => fun
  | [d1, d2, d3, d4] => { results := [.lit (.bool true)], args := [d1, d2, d3, d4] }
  | _ => none }
def netEndsRow : OpenClaim := { program := "ytedcheicnaphmaa", sum := "d99d085acbbb23edea7230481799742811fc4c1281fa05d9b942db569ed96b9d", func := "fieldfare/fieldfarelaw20.NetEnds", spec := "netEnds", inPlace := ["internal/reflectlite.TypeOf"], unfollowed := true, recurses := true, apart := false }
def NetEndsSaid : Prop := netEndsRow.holds Try.pinned (OpenSpec.ofChange netEndsSpec)

/-- ITS FALSE NEIGHBOUR: 'it returns false'. Refute it at one input. -/
def netEndsWrong : ChangeSpec := { name := "netEnds", fn := fun _ => fun
  | [d1, d2, d3, d4] => { results := [.lit (.bool false)], args := [d1, d2, d3, d4] }
  | _ => none }
def NetEndsWrongFalsely : Prop := netEndsRow.holds Try.pinned (OpenSpec.ofChange netEndsWrong)

/- THE SECOND FORM. 'bulk': how many values and letters a reading holds, each counted each time it is reached (what is shared counts as often as it is met; a slice's spare places count too). A statement '..UptoSaid' is the law's where the arguments, and the package variables that the reading takes, are together of bulk at most 1048576: NARROWER than '..Said'. Prove '..Said' where nothing that the law and all that it calls make is longer than what came in: it says more and counts as full. Else prove '..UptoSaid'. A law counts once. -/
mutual
def uptoBulk {H : Type} : DataW H → Nat
  | .lit (.string bytes) => bytes.length + 1
  | .lit _ => 1
  | .nil => 1
  | .ptr d => uptoBulk d + 1
  | .slice elems spare => uptoBulkAll elems + uptoBulkAll spare + 1
  | .agg parts => uptoBulkAll parts + 1
  | .iface _ d => uptoBulk d + 1
  | .map entries => uptoBulkEntries entries + 1
  | .held _ => 1
def uptoBulkAll {H : Type} : List (DataW H) → Nat
  | [] => 0
  | d :: r => uptoBulk d + uptoBulkAll r
def uptoBulkEntries {H : Type} : List (Lit × DataW H) → Nat
  | [] => 0
  | x :: r => uptoBulkEntry x + uptoBulkEntries r
def uptoBulkEntry {H : Type} : Lit × DataW H → Nat
  | (.string bytes, d) => bytes.length + uptoBulk d + 1
  | (_, d) => uptoBulk d + 1
 end
def uptoSmall : (H : Type) → List (DataW H) → Bool := fun _ ds => decide (uptoBulkAll ds ≤ 1048576)
def OpenSpec.upto (s : _root_.Go.ChangeSpec) : _root_.Go.OpenSpec := { _root_.Go.OpenSpec.ofChange s with cond := some uptoSmall }

/-- 'fieldfarelaw20.NetAccepts', WHERE WHAT IT READS IS OF BULK AT MOST 1048576: true; the input reads as it did. -/
def netAcceptsUptoRow : OpenClaim := { program := "ytedcheicnaphmaa", sum := "d99d085acbbb23edea7230481799742811fc4c1281fa05d9b942db569ed96b9d", func := "fieldfare/fieldfarelaw20.NetAccepts", spec := "netAccepts", apart := false, narrowed := true }
def NetAcceptsUptoSaid : Prop := netAcceptsUptoRow.holds Try.pinned (OpenSpec.upto netAcceptsSpec)

/-- 'fieldfarelaw20.NetWindows', WHERE WHAT IT READS IS OF BULK AT MOST 1048576: true; the input reads as it did. -/
def netWindowsUptoRow : OpenClaim := { program := "ytedcheicnaphmaa", sum := "d99d085acbbb23edea7230481799742811fc4c1281fa05d9b942db569ed96b9d", func := "fieldfare/fieldfarelaw20.NetWindows", spec := "netWindows", apart := false, narrowed := true }
def NetWindowsUptoSaid : Prop := netWindowsUptoRow.holds Try.pinned (OpenSpec.upto netWindowsSpec)

/-- 'fieldfarelaw20.NetOrder', WHERE WHAT IT READS IS OF BULK AT MOST 1048576: true; the input reads as it did. -/
def netOrderUptoRow : OpenClaim := { program := "ytedcheicnaphmaa", sum := "d99d085acbbb23edea7230481799742811fc4c1281fa05d9b942db569ed96b9d", func := "fieldfare/fieldfarelaw20.NetOrder", spec := "netOrder", apart := false, narrowed := true }
def NetOrderUptoSaid : Prop := netOrderUptoRow.holds Try.pinned (OpenSpec.upto netOrderSpec)

/-- 'fieldfarelaw20.NetEnds', WHERE WHAT IT READS IS OF BULK AT MOST 1048576: true; the input reads as it did. -/
def netEndsUptoRow : OpenClaim := { program := "ytedcheicnaphmaa", sum := "d99d085acbbb23edea7230481799742811fc4c1281fa05d9b942db569ed96b9d", func := "fieldfare/fieldfarelaw20.NetEnds", spec := "netEnds", inPlace := ["internal/reflectlite.TypeOf"], unfollowed := true, recurses := true, apart := false, narrowed := true }
def NetEndsUptoSaid : Prop := netEndsUptoRow.holds Try.pinned (OpenSpec.upto netEndsSpec)

end Rows
end Go.Proofs.Ytedcheicnaphmaa
