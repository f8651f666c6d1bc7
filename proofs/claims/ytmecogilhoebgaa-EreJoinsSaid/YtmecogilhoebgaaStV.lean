/-
  Which steps are a program: the plain law of StepsValid. No program, no conditions.
-/
import Derived.Test.YtmecogilhoebgaaBase
namespace Go.Proofs.Ytmecogilhoebgaa
set_option linter.unusedVariables false
set_option linter.unusedSimpArgs false

/-- A step: its kind, set (four words), places. -/
structure Sp where
  k : Int
  s0 : Int
  s1 : Int
  s2 : Int
  s3 : Int
  x : Int
  y : Int
deriving DecidableEq, Inhabited
def Sp.none_ (s : Sp) : Bool := s.s0 == 0 && s.s1 == 0 && s.s2 == 0 && s.s3 == 0
def Sp.cells (s : Sp) : List Value := [.int .i64 s.k, .int .u64 s.s0, .int .u64 s.s1, .int .u64 s.s2, .int .u64 s.s3, .int .i64 s.x, .int .i64 s.y]
/-- May such a step stand among n? As the program asks. -/
def okP (n : Int) (s : Sp) : Bool :=
  if s.k ≠ 0 ∧ s.none_ = false then false
  else if s.k = 4 then (s.x == 0 && s.y == 0)
  else if s.k = 1 then (decide (0 ≤ s.x) && decide (s.x < n) && decide (0 ≤ s.y) && decide (s.y < n))
  else if s.k = 0 ∨ s.k = 2 ∨ s.k = 3 then (decide (0 ≤ s.x) && decide (s.x < n) && s.y == 0)
  else false
/-- .. as the reference asks. -/
def okR (n : Int) (s : Sp) : Bool :=
  if s.k < 0 ∨ s.k > 4 ∨ (s.k ≠ 0 ∧ s.none_ = false) then false
  else if (if s.k = 4 then s.x ≠ 0 else s.x < 0 ∨ s.x ≥ n) then false
  else if (s.k = 1 ∧ (s.y < 0 ∨ s.y ≥ n)) ∨ (s.k ≠ 1 ∧ s.y ≠ 0) then false
  else true
theorem okP_okR (n : Int) (s : Sp) : okP n s = okR n s := by
  unfold okP okR
  apply Bool.eq_iff_iff.2
  cases hz : s.none_
  all_goals
    (repeat' split) <;> simp only [Bool.and_eq_true, decide_eq_true_eq, beq_iff_eq, reduceCtorEq, false_iff, iff_false, true_iff, iff_true] <;> simp_all <;> omega
/-- Whether steps are a program, behind what has been found. -/
def validF (ok : Sp → Bool) (found : Bool) : List Sp → Bool
  | [] => found
  | s :: r => if ok s = true then validF ok (found || s.k == 4) r else false
theorem valid_same (n : Int) (l : List Sp) : ∀ found, validF (okP n) found l = validF (okR n) found l := by
  induction l with
  | nil => intro f; rfl
  | cons s r ih => intro f; rw [validF, validF, okP_okR, ih]
end Go.Proofs.Ytmecogilhoebgaa
