/-
  What is in [^..] is what is not in [..]: the plain law over bytes. No program, no conditions.
-/
import Derived.Test.YtobmdpfljdnlaaaBracket
namespace Go.Proofs.Ytobmdpfljdnlaaa
open Go.RowKit
set_option linter.unusedVariables false
set_option linter.unusedSimpArgs false

section
variable {x y z : UInt8} {r : List UInt8}
theorem bn_sh {i : Nat} (h : 1 ≤ i) : bn (y :: z :: r) (i + 1) = bn (x :: r) i := by
  obtain ⟨j, rfl⟩ : ∃ j, i = j + 1 := ⟨i - 1, by omega⟩
  unfold bn; simp
theorem drop_sh {i : Nat} (h : 1 ≤ i) : (y :: z :: r).drop (i + 1) = (x :: r).drop i := by
  obtain ⟨j, rfl⟩ : ∃ j, i = j + 1 := ⟨i - 1, by omega⟩
  simp
theorem len_sh : (y :: z :: r).length = (x :: r).length + 1 := by simp
theorem opens_sh {i : Nat} (h : 1 ≤ i) : opensS (y :: z :: r) (i + 1) = opensS (x :: r) i := by
  unfold opensS
  rw [bn_sh (x := x) h, bn_sh (x := x) (i := i + 1) (by omega), len_sh (x := x)]
  congr 1
  rw [Bool.eq_iff_iff]; simp
theorem single_sh {i : Nat} (h : 1 ≤ i) : singleS (y :: z :: r) (i + 1) = (singleS (x :: r) i).map fun p => (p.1, p.2 + 1) := by
  unfold singleS
  rw [bn_sh (x := x) h, bn_sh (x := x) (i := i + 1) (by omega), len_sh (x := x)]
  by_cases h1 : (x :: r).length ≤ i
  · rw [if_pos (by omega), if_pos h1]; rfl
  · rw [if_neg (by omega), if_neg h1]
    by_cases h2 : bn (x :: r) i ≠ 92
    · rw [if_pos h2, if_pos h2]; rfl
    · rw [if_neg h2, if_neg h2]
      by_cases h3 : (x :: r).length ≤ i + 1
      · rw [if_pos (by omega), if_pos h3]; rfl
      · rw [if_neg (by omega), if_neg h3]; rfl
/-- One place further. -/
def shE : Except (Nat × Nat) (S4 × Nat) → Except (Nat × Nat) (S4 × Nat)
  | .error (p, c) => .error (p + 1, c)
  | .ok (R, n) => .ok (R, n + 1)
theorem member_sh {i : Nat} (h : 1 ≤ i) : memberS (y :: z :: r) (i + 1) = shE (memberS (x :: r) i) := by
  unfold memberS
  rw [opens_sh (x := x) h, single_sh (x := x) h, show i + 1 + 2 = i + 2 + 1 from rfl, drop_sh (x := x) (i := i + 2) (by omega), len_sh (x := x)]
  by_cases ho : opensS (x :: r) i = true
  · rw [if_pos ho, if_pos ho]
    by_cases hi : Lib.index ((x :: r).drop (i + 2)) [58, 93] < 0
    · rw [if_pos hi, if_pos hi]; rfl
    · rw [if_neg hi, if_neg hi]
      cases classS (((x :: r).drop (i + 2)).take (Lib.index ((x :: r).drop (i + 2)) [58, 93]).toNat) with
      | none => rfl
      | some R =>
        show Except.ok _ = Except.ok _
        congr 2
        omega
  · rw [if_neg ho, if_neg ho]
    cases hs : singleS (x :: r) i with
    | none => rfl
    | some p =>
      obtain ⟨f, nx⟩ := p
      obtain ⟨-, -, hlt, -⟩ := singleS_lt hs
      show (if _ then _ else _) = shE (if _ then _ else _)
      dsimp only
      rw [bn_sh (x := x) (i := nx) (by omega), bn_sh (x := x) (i := nx + 1) (by omega), opens_sh (x := x) (i := nx + 1) (by omega), single_sh (x := x) (i := nx + 1) (by omega)]
      by_cases h1 : (x :: r).length ≤ nx + 1 ∨ bn (x :: r) nx ≠ 45 ∨ bn (x :: r) (nx + 1) = 93
      · rw [if_pos h1, if_pos (by omega)]; rfl
      · rw [if_neg h1, if_neg (by omega)]
        by_cases h2 : opensS (x :: r) (nx + 1) = true
        · rw [if_pos h2, if_pos h2]; rfl
        · rw [if_neg h2, if_neg h2]
          cases singleS (x :: r) (nx + 1) with
          | none => rfl
          | some q =>
            obtain ⟨t, n2⟩ := q
            show (if _ then _ else _) = shE (if _ then _ else _)
            dsimp only
            by_cases h3 : t < f
            · rw [if_pos h3, if_pos h3]; rfl
            · rw [if_neg h3, if_neg h3]; rfl
theorem brkL_sh {first : Nat} (hf : 1 ≤ first) : ∀ (k k' n : Nat) (S : S4), 1 ≤ n → (x :: r).length < n + k + 1 → (x :: r).length < n + k' + 1 →
    brkL (y :: z :: r) (first + 1) (k' + 1) (n + 1) S = shE (brkL (x :: r) first (k + 1) n S) := by
  intro k
  induction k with
  | zero =>
    intro k' n S hn h1 h2
    unfold brkL
    rw [bn_sh (x := x) hn, member_sh (x := x) hn, len_sh (x := x)]
    by_cases hc : n = first ∨ (x :: r).length ≤ n ∨ bn (x :: r) n ≠ 93
    · rw [if_pos hc, if_pos (by omega)]
      cases hm : memberS (x :: r) n with
      | error p => obtain ⟨p, c⟩ := p; rfl
      | ok q =>
        obtain ⟨R, m⟩ := q
        obtain ⟨-, h3, h4⟩ := memberS_ok hm
        omega
    · rw [if_neg hc, if_neg (by omega)]; rfl
  | succ k ih =>
    intro k' n S hn h1 h2
    rw [brkL, brkL]
    rw [bn_sh (x := x) hn, member_sh (x := x) hn, len_sh (x := x)]
    by_cases hc : n = first ∨ (x :: r).length ≤ n ∨ bn (x :: r) n ≠ 93
    · rw [if_pos hc, if_pos (by omega)]
      cases hm : memberS (x :: r) n with
      | error p => obtain ⟨p, c⟩ := p; rfl
      | ok q =>
        obtain ⟨R, m⟩ := q
        obtain ⟨-, h3, h4⟩ := memberS_ok hm
        obtain ⟨j, rfl⟩ : ∃ j, k' = j + 1 := ⟨k' - 1, by omega⟩
        exact ih j m (S.or R) (by omega) (by omega) (by omega)
    · rw [if_neg hc, if_neg (by omega)]; rfl
end
/-- The law. -/
theorem nots_law {bs : List UInt8} (h2 : 2 ≤ bs.length) (h1 : bn bs 1 ≠ 94) :
    bracketS (91 :: 94 :: bs.drop 1) 0 = match bracketS bs 0 with
      | .error (p, c) => .error (p + 1, c)
      | .ok (R, n) => .ok (R.not, n + 1) := by
  obtain ⟨x, r, rfl⟩ : ∃ x r, bs = x :: r := by
    cases bs with
    | nil => simp at h2
    | cons x r => exact ⟨x, r, rfl⟩
  have hr : 0 < r.length := by simp at h2; omega
  have hA : bracketS (91 :: 94 :: r) 0 = brkE true 0 (brkL (91 :: 94 :: r) (1 + 1) ((x :: r).length + 1 + 1) (1 + 1) S4.empty) := by
    unfold bracketS
    rw [if_pos ⟨by simp, by unfold bn; simp⟩]
    simp
  have hB : bracketS (x :: r) 0 = brkE false 0 (brkL (x :: r) 1 ((x :: r).length + 1) 1 S4.empty) := by
    unfold bracketS
    rw [if_neg (fun h => h1 h.2)]
  rw [show (x :: r).drop 1 = r from rfl, hA, hB, brkL_sh (x := x) (y := 91) (z := 94) (r := r) (first := 1) (by omega) (x :: r).length ((x :: r).length + 1) 1 S4.empty (by omega) (by omega) (by omega)]
  cases brkL (x :: r) 1 ((x :: r).length + 1) 1 S4.empty with
  | error p => obtain ⟨p, c⟩ := p; rfl
  | ok q => obtain ⟨R, n⟩ := q; rfl
end Go.Proofs.Ytobmdpfljdnlaaa
