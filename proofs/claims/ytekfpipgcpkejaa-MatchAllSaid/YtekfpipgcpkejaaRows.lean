/-
  No cell of these rows narrows 'for every input' (looked for: loops, veiled, ifaces, maps, wideKeys, modest, calm, conditions, laid).
  DERIVED. THE GIVEN ROWS OF THIS SEAT. 9 by the template 'for every input the law returns true; each argument reads behind the call as it read before'; 0 by the template 'total and deterministic' (their statements: YtekfpipgcpkejaaTotals.lean).
  GIVEN WITH THE SEED: the statements are not yours to turn. If you find one false, say at which input.
  Laid BY PROGRAM, IN A SANDBOX (cutbox-rows.mjs): the forced cells as the released guide's own fill.sh prints them over the translation b07b70d6ba8031e3… (all of the seat's roots in one cut). By AI agents, Wed Nov 11 2026. No macro, syntax, notation, axiom, sorry.
-/
import Derived.Test.YtekfpipgcpkejaaChecked
import GoSem.Claim
import GoSem.ClaimJoined
import GoSem.ClaimMapViews
import Derived.JoinedTies
import Derived.KernelRfl
namespace Go.Proofs.Ytekfpipgcpkejaa
/- THE CELL 'sum', in the pinned program and in every row, IS THE sha256 OF THE DUMP (.gsa) THAT YtekfpipgcpkejaaProg.lean LOADS. Nothing in Lean hashes anything: it is a label: what it is worth is what the hold of that sum in a sandbox is worth. -/
noncomputable def Try.pinned : Pinned := { name := "ytekfpipgcpkejaa", sum := "b07b70d6ba8031e3965022c56ddbcb1e4fbc46b4c1f991af17507da62dbf5f00", checked := Try.checked }
namespace Rows
def none {H : Type} : Left H := { results := [], args := [] }

/-- 'fieldfarelaw06.MatchFinds': WHATEVER THE INPUT: true; the input reads as it did. -/
def matchFindsSpec : ChangeSpec := { name := "matchFinds", fn := fun _ => fun
  | [d1, d2, d3] => { results := [.lit (.bool true)], args := [d1, d2, d3] }
  | _ => none }
def matchFindsRow : OpenClaim := { program := "ytekfpipgcpkejaa", sum := "b07b70d6ba8031e3965022c56ddbcb1e4fbc46b4c1f991af17507da62dbf5f00", func := "fieldfare/fieldfarelaw06.MatchFinds", spec := "matchFinds", inPlace := ["internal/bytealg.IndexByte", "internal/bytealg.Index"], unfollowed := true, recurses := true, named := ["internal/bytealg.MaxLen"], plainKeys := false, apart := false }
def MatchFindsSaid : Prop := matchFindsRow.holds Try.pinned (OpenSpec.ofChange matchFindsSpec)

/-- ITS FALSE NEIGHBOUR: 'it returns false'. Refute it at one input. -/
def matchFindsWrong : ChangeSpec := { name := "matchFinds", fn := fun _ => fun
  | [d1, d2, d3] => { results := [.lit (.bool false)], args := [d1, d2, d3] }
  | _ => none }
def MatchFindsWrongFalsely : Prop := matchFindsRow.holds Try.pinned (OpenSpec.ofChange matchFindsWrong)

/-- 'fieldfarelaw06.MatchAll': WHATEVER THE INPUT: true; the input reads as it did. -/
def matchAllSpec : ChangeSpec := { name := "matchAll", fn := fun _ => fun
  | [d1, d2, d3] => { results := [.lit (.bool true)], args := [d1, d2, d3] }
  | _ => none }
def matchAllRow : OpenClaim := { program := "ytekfpipgcpkejaa", sum := "b07b70d6ba8031e3965022c56ddbcb1e4fbc46b4c1f991af17507da62dbf5f00", func := "fieldfare/fieldfarelaw06.MatchAll", spec := "matchAll", inPlace := ["internal/bytealg.IndexByte", "internal/bytealg.Index"], unfollowed := true, recurses := true, named := ["internal/bytealg.MaxLen"], plainKeys := false, apart := false }
def MatchAllSaid : Prop := matchAllRow.holds Try.pinned (OpenSpec.ofChange matchAllSpec)

/-- ITS FALSE NEIGHBOUR: 'it returns false'. Refute it at one input. -/
def matchAllWrong : ChangeSpec := { name := "matchAll", fn := fun _ => fun
  | [d1, d2, d3] => { results := [.lit (.bool false)], args := [d1, d2, d3] }
  | _ => none }
def MatchAllWrongFalsely : Prop := matchAllRow.holds Try.pinned (OpenSpec.ofChange matchAllWrong)

/-- 'fieldfarelaw06.MatchParts': WHATEVER THE INPUT: true; the input reads as it did. -/
def matchPartsSpec : ChangeSpec := { name := "matchParts", fn := fun _ => fun
  | [d1, d2] => { results := [.lit (.bool true)], args := [d1, d2] }
  | _ => none }
def matchPartsRow : OpenClaim := { program := "ytekfpipgcpkejaa", sum := "b07b70d6ba8031e3965022c56ddbcb1e4fbc46b4c1f991af17507da62dbf5f00", func := "fieldfare/fieldfarelaw06.MatchParts", spec := "matchParts", inPlace := ["internal/bytealg.IndexByte", "internal/bytealg.Index"], unfollowed := true, recurses := true, named := ["internal/bytealg.MaxLen"], plainKeys := false, apart := false }
def MatchPartsSaid : Prop := matchPartsRow.holds Try.pinned (OpenSpec.ofChange matchPartsSpec)

/-- ITS FALSE NEIGHBOUR: 'it returns false'. Refute it at one input. -/
def matchPartsWrong : ChangeSpec := { name := "matchParts", fn := fun _ => fun
  | [d1, d2] => { results := [.lit (.bool false)], args := [d1, d2] }
  | _ => none }
def MatchPartsWrongFalsely : Prop := matchPartsRow.holds Try.pinned (OpenSpec.ofChange matchPartsWrong)

/-- 'fieldfarelaw06.MatchPlain': WHATEVER THE INPUT: true; the input reads as it did. -/
def matchPlainSpec : ChangeSpec := { name := "matchPlain", fn := fun _ => fun
  | [d1, d2] => { results := [.lit (.bool true)], args := [d1, d2] }
  | _ => none }
def matchPlainRow : OpenClaim := { program := "ytekfpipgcpkejaa", sum := "b07b70d6ba8031e3965022c56ddbcb1e4fbc46b4c1f991af17507da62dbf5f00", func := "fieldfare/fieldfarelaw06.MatchPlain", spec := "matchPlain", inPlace := ["internal/bytealg.IndexByte", "internal/bytealg.Index"], unfollowed := true, recurses := true, named := ["internal/bytealg.MaxLen"], plainKeys := false, apart := false }
def MatchPlainSaid : Prop := matchPlainRow.holds Try.pinned (OpenSpec.ofChange matchPlainSpec)

/-- ITS FALSE NEIGHBOUR: 'it returns false'. Refute it at one input. -/
def matchPlainWrong : ChangeSpec := { name := "matchPlain", fn := fun _ => fun
  | [d1, d2] => { results := [.lit (.bool false)], args := [d1, d2] }
  | _ => none }
def MatchPlainWrongFalsely : Prop := matchPlainRow.holds Try.pinned (OpenSpec.ofChange matchPlainWrong)

/-- 'fieldfarelaw06.MatchEither': WHATEVER THE INPUT: true; the input reads as it did. -/
def matchEitherSpec : ChangeSpec := { name := "matchEither", fn := fun _ => fun
  | [d1, d2, d3] => { results := [.lit (.bool true)], args := [d1, d2, d3] }
  | _ => none }
def matchEitherRow : OpenClaim := { program := "ytekfpipgcpkejaa", sum := "b07b70d6ba8031e3965022c56ddbcb1e4fbc46b4c1f991af17507da62dbf5f00", func := "fieldfare/fieldfarelaw06.MatchEither", spec := "matchEither", inPlace := ["internal/bytealg.IndexByte", "internal/bytealg.Index"], unfollowed := true, recurses := true, named := ["internal/bytealg.MaxLen"], plainKeys := false, apart := false }
def MatchEitherSaid : Prop := matchEitherRow.holds Try.pinned (OpenSpec.ofChange matchEitherSpec)

/-- ITS FALSE NEIGHBOUR: 'it returns false'. Refute it at one input. -/
def matchEitherWrong : ChangeSpec := { name := "matchEither", fn := fun _ => fun
  | [d1, d2, d3] => { results := [.lit (.bool false)], args := [d1, d2, d3] }
  | _ => none }
def MatchEitherWrongFalsely : Prop := matchEitherRow.holds Try.pinned (OpenSpec.ofChange matchEitherWrong)

/-- 'fieldfarelaw06.MatchTimes': WHATEVER THE INPUT: true; the input reads as it did. -/
def matchTimesSpec : ChangeSpec := { name := "matchTimes", fn := fun _ => fun
  | [d1, d2, d3] => { results := [.lit (.bool true)], args := [d1, d2, d3] }
  | _ => none }
def matchTimesRow : OpenClaim := { program := "ytekfpipgcpkejaa", sum := "b07b70d6ba8031e3965022c56ddbcb1e4fbc46b4c1f991af17507da62dbf5f00", func := "fieldfare/fieldfarelaw06.MatchTimes", spec := "matchTimes", inPlace := ["internal/bytealg.IndexByte", "internal/bytealg.Index"], unfollowed := true, recurses := true, named := ["internal/bytealg.MaxLen"], plainKeys := false, apart := false }
def MatchTimesSaid : Prop := matchTimesRow.holds Try.pinned (OpenSpec.ofChange matchTimesSpec)

/-- ITS FALSE NEIGHBOUR: 'it returns false'. Refute it at one input. -/
def matchTimesWrong : ChangeSpec := { name := "matchTimes", fn := fun _ => fun
  | [d1, d2, d3] => { results := [.lit (.bool false)], args := [d1, d2, d3] }
  | _ => none }
def MatchTimesWrongFalsely : Prop := matchTimesRow.holds Try.pinned (OpenSpec.ofChange matchTimesWrong)

/-- 'fieldfarelaw06.MatchLate': WHATEVER THE INPUT: true; the input reads as it did. -/
def matchLateSpec : ChangeSpec := { name := "matchLate", fn := fun _ => fun
  | [d1, d2, d3] => { results := [.lit (.bool true)], args := [d1, d2, d3] }
  | _ => none }
def matchLateRow : OpenClaim := { program := "ytekfpipgcpkejaa", sum := "b07b70d6ba8031e3965022c56ddbcb1e4fbc46b4c1f991af17507da62dbf5f00", func := "fieldfare/fieldfarelaw06.MatchLate", spec := "matchLate", inPlace := ["internal/bytealg.IndexByte", "internal/bytealg.Index"], unfollowed := true, recurses := true, named := ["internal/bytealg.MaxLen"], plainKeys := false, apart := false }
def MatchLateSaid : Prop := matchLateRow.holds Try.pinned (OpenSpec.ofChange matchLateSpec)

/-- ITS FALSE NEIGHBOUR: 'it returns false'. Refute it at one input. -/
def matchLateWrong : ChangeSpec := { name := "matchLate", fn := fun _ => fun
  | [d1, d2, d3] => { results := [.lit (.bool false)], args := [d1, d2, d3] }
  | _ => none }
def MatchLateWrongFalsely : Prop := matchLateRow.holds Try.pinned (OpenSpec.ofChange matchLateWrong)

/-- 'fieldfarelaw06.MatchLooks': WHATEVER THE INPUT: true; the input reads as it did. -/
def matchLooksSpec : ChangeSpec := { name := "matchLooks", fn := fun _ => fun
  | [d1, d2, d3] => { results := [.lit (.bool true)], args := [d1, d2, d3] }
  | _ => none }
def matchLooksRow : OpenClaim := { program := "ytekfpipgcpkejaa", sum := "b07b70d6ba8031e3965022c56ddbcb1e4fbc46b4c1f991af17507da62dbf5f00", func := "fieldfare/fieldfarelaw06.MatchLooks", spec := "matchLooks", inPlace := ["internal/bytealg.IndexByte", "internal/bytealg.Index"], unfollowed := true, recurses := true, named := ["internal/bytealg.MaxLen"], plainKeys := false, apart := false }
def MatchLooksSaid : Prop := matchLooksRow.holds Try.pinned (OpenSpec.ofChange matchLooksSpec)

/-- ITS FALSE NEIGHBOUR: 'it returns false'. Refute it at one input. -/
def matchLooksWrong : ChangeSpec := { name := "matchLooks", fn := fun _ => fun
  | [d1, d2, d3] => { results := [.lit (.bool false)], args := [d1, d2, d3] }
  | _ => none }
def MatchLooksWrongFalsely : Prop := matchLooksRow.holds Try.pinned (OpenSpec.ofChange matchLooksWrong)

/-- 'fieldfarelaw06.MatchOf': WHATEVER THE INPUT: true; the input reads as it did. -/
def matchOfSpec : ChangeSpec := { name := "matchOf", fn := fun _ => fun
  | [d1, d2, d3] => { results := [.lit (.bool true)], args := [d1, d2, d3] }
  | _ => none }
def matchOfRow : OpenClaim := { program := "ytekfpipgcpkejaa", sum := "b07b70d6ba8031e3965022c56ddbcb1e4fbc46b4c1f991af17507da62dbf5f00", func := "fieldfare/fieldfarelaw06.MatchOf", spec := "matchOf", inPlace := ["internal/bytealg.IndexByte", "internal/bytealg.Index"], unfollowed := true, recurses := true, named := ["internal/bytealg.MaxLen"], plainKeys := false, apart := false }
def MatchOfSaid : Prop := matchOfRow.holds Try.pinned (OpenSpec.ofChange matchOfSpec)

/-- ITS FALSE NEIGHBOUR: 'it returns false'. Refute it at one input. -/
def matchOfWrong : ChangeSpec := { name := "matchOf", fn := fun _ => fun
  | [d1, d2, d3] => { results := [.lit (.bool false)], args := [d1, d2, d3] }
  | _ => none }
def MatchOfWrongFalsely : Prop := matchOfRow.holds Try.pinned (OpenSpec.ofChange matchOfWrong)

/- THE SECOND FORM. 'bulk': how many values and letters a reading holds, each counted each time it is reached (what is shared counts as often as it is met; a slice's spare places count too). A statement '..UptoSaid' is the law's where the arguments, and the package variables that the reading takes, are together of bulk at most 1048576: NARROWER than '..Said'. Prove '..Said' where nothing that the law and all that it calls make is longer than what came in: it says more and counts as full. Else prove '..UptoSaid'. A law counts once. -/
mutual
def uptoBulk {H : Type} : DataW H → Nat
  | .lit (.string bytes) => bytes.length + 1
  | .lit _ => 1
  | .nil => 1
  | .ptr d => uptoBulk d + 1
  | .slice elems spare => uptoBulkAll elems + uptoBulkAll spare + 1
  | .agg parts => uptoBulkAll parts + 1
  | .iface _ d => uptoBulk d + 1
  | .map entries => uptoBulkEntries entries + 1
  | .held _ => 1
def uptoBulkAll {H : Type} : List (DataW H) → Nat
  | [] => 0
  | d :: r => uptoBulk d + uptoBulkAll r
def uptoBulkEntries {H : Type} : List (Lit × DataW H) → Nat
  | [] => 0
  | x :: r => uptoBulkEntry x + uptoBulkEntries r
def uptoBulkEntry {H : Type} : Lit × DataW H → Nat
  | (.string bytes, d) => bytes.length + uptoBulk d + 1
  | (_, d) => uptoBulk d + 1
 end
def uptoSmall : (H : Type) → List (DataW H) → Bool := fun _ ds => decide (uptoBulkAll ds ≤ 1048576)
def OpenSpec.upto (s : _root_.Go.ChangeSpec) : _root_.Go.OpenSpec := { _root_.Go.OpenSpec.ofChange s with cond := some uptoSmall }

/-- 'fieldfarelaw06.MatchFinds', WHERE WHAT IT READS IS OF BULK AT MOST 1048576: true; the input reads as it did. -/
def matchFindsUptoRow : OpenClaim := { program := "ytekfpipgcpkejaa", sum := "b07b70d6ba8031e3965022c56ddbcb1e4fbc46b4c1f991af17507da62dbf5f00", func := "fieldfare/fieldfarelaw06.MatchFinds", spec := "matchFinds", inPlace := ["internal/bytealg.IndexByte", "internal/bytealg.Index"], unfollowed := true, recurses := true, named := ["internal/bytealg.MaxLen"], plainKeys := false, apart := false, narrowed := true }
def MatchFindsUptoSaid : Prop := matchFindsUptoRow.holds Try.pinned (OpenSpec.upto matchFindsSpec)

/-- 'fieldfarelaw06.MatchAll', WHERE WHAT IT READS IS OF BULK AT MOST 1048576: true; the input reads as it did. -/
def matchAllUptoRow : OpenClaim := { program := "ytekfpipgcpkejaa", sum := "b07b70d6ba8031e3965022c56ddbcb1e4fbc46b4c1f991af17507da62dbf5f00", func := "fieldfare/fieldfarelaw06.MatchAll", spec := "matchAll", inPlace := ["internal/bytealg.IndexByte", "internal/bytealg.Index"], unfollowed := true, recurses := true, named := ["internal/bytealg.MaxLen"], plainKeys := false, apart := false, narrowed := true }
def MatchAllUptoSaid : Prop := matchAllUptoRow.holds Try.pinned (OpenSpec.upto matchAllSpec)

/-- 'fieldfarelaw06.MatchParts', WHERE WHAT IT READS IS OF BULK AT MOST 1048576: true; the input reads as it did. -/
def matchPartsUptoRow : OpenClaim := { program := "ytekfpipgcpkejaa", sum := "b07b70d6ba8031e3965022c56ddbcb1e4fbc46b4c1f991af17507da62dbf5f00", func := "fieldfare/fieldfarelaw06.MatchParts", spec := "matchParts", inPlace := ["internal/bytealg.IndexByte", "internal/bytealg.Index"], unfollowed := true, recurses := true, named := ["internal/bytealg.MaxLen"], plainKeys := false, apart := false, narrowed := true }
def MatchPartsUptoSaid : Prop := matchPartsUptoRow.holds Try.pinned (OpenSpec.upto matchPartsSpec)

/-- 'fieldfarelaw06.MatchPlain', WHERE WHAT IT READS IS OF BULK AT MOST 1048576: true; the input reads as it did. -/
def matchPlainUptoRow : OpenClaim := { program := "ytekfpipgcpkejaa", sum := "b07b70d6ba8031e3965022c56ddbcb1e4fbc46b4c1f991af17507da62dbf5f00", func := "fieldfare/fieldfarelaw06.MatchPlain", spec := "matchPlain", inPlace := ["internal/bytealg.IndexByte", "internal/bytealg.Index"], unfollowed := true, recurses := true, named := ["internal/bytealg.MaxLen"], plainKeys := false, apart := false, narrowed := true }
def MatchPlainUptoSaid : Prop := matchPlainUptoRow.holds Try.pinned (OpenSpec.upto matchPlainSpec)

/-- 'fieldfarelaw06.MatchEither', WHERE WHAT IT READS IS OF BULK AT MOST 1048576: true; the input reads as it did. -/
def matchEitherUptoRow : OpenClaim := { program := "ytekfpipgcpkejaa", sum := "b07b70d6ba8031e3965022c56ddbcb1e4fbc46b4c1f991af17507da62dbf5f00", func := "fieldfare/fieldfarelaw06.MatchEither", spec := "matchEither", inPlace := ["internal/bytealg.IndexByte", "internal/bytealg.Index"], unfollowed := true, recurses := true, named := ["internal/bytealg.MaxLen"], plainKeys := false, apart := false, narrowed := true }
def MatchEitherUptoSaid : Prop := matchEitherUptoRow.holds Try.pinned (OpenSpec.upto matchEitherSpec)

/-- 'fieldfarelaw06.MatchTimes', WHERE WHAT IT READS IS OF BULK AT MOST 1048576: true; the input reads as it did. -/
def matchTimesUptoRow : OpenClaim := { program := "ytekfpipgcpkejaa", sum := "b07b70d6ba8031e3965022c56ddbcb1e4fbc46b4c1f991af17507da62dbf5f00", func := "fieldfare/fieldfarelaw06.MatchTimes", spec := "matchTimes", inPlace := ["internal/bytealg.IndexByte", "internal/bytealg.Index"], unfollowed := true, recurses := true, named := ["internal/bytealg.MaxLen"], plainKeys := false, apart := false, narrowed := true }
def MatchTimesUptoSaid : Prop := matchTimesUptoRow.holds Try.pinned (OpenSpec.upto matchTimesSpec)

/-- 'fieldfarelaw06.MatchLate', WHERE WHAT IT READS IS OF BULK AT MOST 1048576: true; the input reads as it did. -/
def matchLateUptoRow : OpenClaim := { program := "ytekfpipgcpkejaa", sum := "b07b70d6ba8031e3965022c56ddbcb1e4fbc46b4c1f991af17507da62dbf5f00", func := "fieldfare/fieldfarelaw06.MatchLate", spec := "matchLate", inPlace := ["internal/bytealg.IndexByte", "internal/bytealg.Index"], unfollowed := true, recurses := true, named := ["internal/bytealg.MaxLen"], plainKeys := false, apart := false, narrowed := true }
def MatchLateUptoSaid : Prop := matchLateUptoRow.holds Try.pinned (OpenSpec.upto matchLateSpec)

/-- 'fieldfarelaw06.MatchLooks', WHERE WHAT IT READS IS OF BULK AT MOST 1048576: true; the input reads as it did. -/
def matchLooksUptoRow : OpenClaim := { program := "ytekfpipgcpkejaa", sum := "b07b70d6ba8031e3965022c56ddbcb1e4fbc46b4c1f991af17507da62dbf5f00", func := "fieldfare/fieldfarelaw06.MatchLooks", spec := "matchLooks", inPlace := ["internal/bytealg.IndexByte", "internal/bytealg.Index"], unfollowed := true, recurses := true, named := ["internal/bytealg.MaxLen"], plainKeys := false, apart := false, narrowed := true }
def MatchLooksUptoSaid : Prop := matchLooksUptoRow.holds Try.pinned (OpenSpec.upto matchLooksSpec)

/-- 'fieldfarelaw06.MatchOf', WHERE WHAT IT READS IS OF BULK AT MOST 1048576: true; the input reads as it did. -/
def matchOfUptoRow : OpenClaim := { program := "ytekfpipgcpkejaa", sum := "b07b70d6ba8031e3965022c56ddbcb1e4fbc46b4c1f991af17507da62dbf5f00", func := "fieldfare/fieldfarelaw06.MatchOf", spec := "matchOf", inPlace := ["internal/bytealg.IndexByte", "internal/bytealg.Index"], unfollowed := true, recurses := true, named := ["internal/bytealg.MaxLen"], plainKeys := false, apart := false, narrowed := true }
def MatchOfUptoSaid : Prop := matchOfUptoRow.holds Try.pinned (OpenSpec.upto matchOfSpec)

end Rows
end Go.Proofs.Ytekfpipgcpkejaa
