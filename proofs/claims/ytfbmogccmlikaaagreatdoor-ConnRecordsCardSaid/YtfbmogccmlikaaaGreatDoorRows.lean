/-
  NARROWER THAN 'FOR EVERY INPUT', by the rows' own cells (each row's printed sentence says how): ConnRecords: laid · ConnBounds: laid.
  DERIVED. THE GIVEN ROWS OF THIS SEAT. 2 by the template 'for every input the law returns true; each argument reads behind the call as it read before'; 0 by the template 'total and deterministic' (their statements: YtfbmogccmlikaaaGreatDoorTotals.lean).
  GIVEN WITH THE SEED: the statements are not yours to turn. If you find one false, say at which input.
  Laid BY PROGRAM, IN A SANDBOX (cutbox-rows.mjs): the forced cells as the released guide's own fill.sh prints them over the translation fd7fa4bfb1282248… (all of the seat's roots in one cut). By AI agents, Wed Nov 11 2026. No macro, syntax, notation, axiom, sorry.
-/
import Derived.Test.YtfbmogccmlikaaaGreatDoorChecked
import GoSem.Claim
import GoSem.ClaimJoined
import GoSem.ClaimMapViews
import Derived.JoinedTies
import Derived.KernelRfl
namespace Go.Proofs.YtfbmogccmlikaaaGreatDoor
/- THE CELL 'sum', in the pinned program and in every row, IS THE sha256 OF THE DUMP (.gsa) THAT YtfbmogccmlikaaaGreatDoorProg.lean LOADS. Nothing in Lean hashes anything: it is a label: what it is worth is what the hold of that sum in a sandbox is worth. -/
noncomputable def Tryz.pinned : Pinned := { name := "ytfbmogccmlikaaagreatdoor", sum := "fd7fa4bfb128224821b85b2dff4c564eb3a18201e06a9d8fa9f5e752520bb453", checked := Tryz.checked }
namespace Rows
def none {H : Type} : Left H := { results := [], args := [] }

/- WHAT THE LISTED PACKAGE-LEVEL VARIABLES READ AS WHEN THE CALL BEGINS. Each datum BY PROGRAM (the guide's laid-datum.mjs) off the statement by which the dump's own 'gosem.cut.vars' lays the variable. In a bare row this is a premise. The card (YtfbmogccmlikaaaGreatDoorCards.lean) ties it to the program's text. -/
def laid_errors_errorType {H : Type} : DataW H := .iface "internal/reflectlite.rtype" (.agg [.ptr (.lit (.string [101, 114, 114, 111, 114]))])

/-- 'fieldfarelaw21.ConnRecords': WHATEVER THE INPUT: true; the input reads as it did. -/
def connRecordsSpec : ChangeSpec := { name := "connRecords", fn := fun _ => fun
  | [d1, d2, d3] => { results := [.lit (.bool true)], args := [d1, d2, d3] }
  | _ => none }
def connRecordsRow : OpenClaim := { program := "ytfbmogccmlikaaagreatdoor", sum := "fd7fa4bfb128224821b85b2dff4c564eb3a18201e06a9d8fa9f5e752520bb453", func := "fieldfare/fieldfarelaw21.ConnRecords", spec := "connRecords", inPlace := ["internal/bytealg.IndexByte", "internal/bytealg.Index", "internal/reflectlite.ValueOf", "(internal/reflectlite.Value).Type", "(internal/reflectlite.Value).IsNil", "internal/reflectlite.TypeOf", "(internal/reflectlite.Value).Elem", "(internal/reflectlite.Value).Set"], unfollowed := true, recurses := true, named := ["internal/bytealg.MaxLen", "errors.errorType"], plainKeys := false, apart := false, laid := [("errors.errorType", laid_errors_errorType)] }
def ConnRecordsSaid : Prop := connRecordsRow.holds Tryz.pinned (OpenSpec.ofChange connRecordsSpec)

/-- ITS FALSE NEIGHBOUR: 'it returns false'. Refute it at one input. -/
def connRecordsWrong : ChangeSpec := { name := "connRecords", fn := fun _ => fun
  | [d1, d2, d3] => { results := [.lit (.bool false)], args := [d1, d2, d3] }
  | _ => none }
def ConnRecordsWrongFalsely : Prop := connRecordsRow.holds Tryz.pinned (OpenSpec.ofChange connRecordsWrong)

/-- 'fieldfarelaw21.ConnBounds': WHATEVER THE INPUT: true; the input reads as it did. -/
def connBoundsSpec : ChangeSpec := { name := "connBounds", fn := fun _ => fun
  | [d1, d2, d3] => { results := [.lit (.bool true)], args := [d1, d2, d3] }
  | _ => none }
def connBoundsRow : OpenClaim := { program := "ytfbmogccmlikaaagreatdoor", sum := "fd7fa4bfb128224821b85b2dff4c564eb3a18201e06a9d8fa9f5e752520bb453", func := "fieldfare/fieldfarelaw21.ConnBounds", spec := "connBounds", inPlace := ["internal/bytealg.IndexByte", "internal/bytealg.Index", "internal/reflectlite.ValueOf", "(internal/reflectlite.Value).Type", "(internal/reflectlite.Value).IsNil", "internal/reflectlite.TypeOf", "(internal/reflectlite.Value).Elem", "(internal/reflectlite.Value).Set"], unfollowed := true, recurses := true, named := ["internal/bytealg.MaxLen", "errors.errorType"], plainKeys := false, apart := false, laid := [("errors.errorType", laid_errors_errorType)] }
def ConnBoundsSaid : Prop := connBoundsRow.holds Tryz.pinned (OpenSpec.ofChange connBoundsSpec)

/-- ITS FALSE NEIGHBOUR: 'it returns false'. Refute it at one input. -/
def connBoundsWrong : ChangeSpec := { name := "connBounds", fn := fun _ => fun
  | [d1, d2, d3] => { results := [.lit (.bool false)], args := [d1, d2, d3] }
  | _ => none }
def ConnBoundsWrongFalsely : Prop := connBoundsRow.holds Tryz.pinned (OpenSpec.ofChange connBoundsWrong)

/- THE SECOND FORM. 'bulk': how many values and letters a reading holds, each counted each time it is reached (what is shared counts as often as it is met; a slice's spare places count too). A statement '..UptoSaid' is the law's where the arguments, and the package variables that the reading takes, are together of bulk at most 1048576: NARROWER than '..Said'. Prove '..Said' where nothing that the law and all that it calls make is longer than what came in: it says more and counts as full. Else prove '..UptoSaid'. A law counts once. -/
mutual
def uptoBulk {H : Type} : DataW H → Nat
  | .lit (.string bytes) => bytes.length + 1
  | .lit _ => 1
  | .nil => 1
  | .ptr d => uptoBulk d + 1
  | .slice elems spare => uptoBulkAll elems + uptoBulkAll spare + 1
  | .agg parts => uptoBulkAll parts + 1
  | .iface _ d => uptoBulk d + 1
  | .map entries => uptoBulkEntries entries + 1
  | .held _ => 1
def uptoBulkAll {H : Type} : List (DataW H) → Nat
  | [] => 0
  | d :: r => uptoBulk d + uptoBulkAll r
def uptoBulkEntries {H : Type} : List (Lit × DataW H) → Nat
  | [] => 0
  | x :: r => uptoBulkEntry x + uptoBulkEntries r
def uptoBulkEntry {H : Type} : Lit × DataW H → Nat
  | (.string bytes, d) => bytes.length + uptoBulk d + 1
  | (_, d) => uptoBulk d + 1
 end
def uptoSmall : (H : Type) → List (DataW H) → Bool := fun _ ds => decide (uptoBulkAll ds ≤ 1048576)
def OpenSpec.upto (s : _root_.Go.ChangeSpec) : _root_.Go.OpenSpec := { _root_.Go.OpenSpec.ofChange s with cond := some uptoSmall }

/-- 'fieldfarelaw21.ConnRecords', WHERE WHAT IT READS IS OF BULK AT MOST 1048576: true; the input reads as it did. -/
def connRecordsUptoRow : OpenClaim := { program := "ytfbmogccmlikaaagreatdoor", sum := "fd7fa4bfb128224821b85b2dff4c564eb3a18201e06a9d8fa9f5e752520bb453", func := "fieldfare/fieldfarelaw21.ConnRecords", spec := "connRecords", inPlace := ["internal/bytealg.IndexByte", "internal/bytealg.Index", "internal/reflectlite.ValueOf", "(internal/reflectlite.Value).Type", "(internal/reflectlite.Value).IsNil", "internal/reflectlite.TypeOf", "(internal/reflectlite.Value).Elem", "(internal/reflectlite.Value).Set"], unfollowed := true, recurses := true, named := ["internal/bytealg.MaxLen", "errors.errorType"], plainKeys := false, apart := false, laid := [("errors.errorType", laid_errors_errorType)], narrowed := true }
def ConnRecordsUptoSaid : Prop := connRecordsUptoRow.holds Tryz.pinned (OpenSpec.upto connRecordsSpec)

/-- 'fieldfarelaw21.ConnBounds', WHERE WHAT IT READS IS OF BULK AT MOST 1048576: true; the input reads as it did. -/
def connBoundsUptoRow : OpenClaim := { program := "ytfbmogccmlikaaagreatdoor", sum := "fd7fa4bfb128224821b85b2dff4c564eb3a18201e06a9d8fa9f5e752520bb453", func := "fieldfare/fieldfarelaw21.ConnBounds", spec := "connBounds", inPlace := ["internal/bytealg.IndexByte", "internal/bytealg.Index", "internal/reflectlite.ValueOf", "(internal/reflectlite.Value).Type", "(internal/reflectlite.Value).IsNil", "internal/reflectlite.TypeOf", "(internal/reflectlite.Value).Elem", "(internal/reflectlite.Value).Set"], unfollowed := true, recurses := true, named := ["internal/bytealg.MaxLen", "errors.errorType"], plainKeys := false, apart := false, laid := [("errors.errorType", laid_errors_errorType)], narrowed := true }
def ConnBoundsUptoSaid : Prop := connBoundsUptoRow.holds Tryz.pinned (OpenSpec.upto connBoundsSpec)

end Rows
end Go.Proofs.YtfbmogccmlikaaaGreatDoor
