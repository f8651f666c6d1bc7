/-
  Plain laws of the reader of expressions: brackets in brackets; three examples. No program, no conditions.
-/
import Derived.Test.YtmecogilhoebgaaErM
namespace Go.Proofs.Ytmecogilhoebgaa
set_option linter.unusedVariables false
set_option linter.unusedSimpArgs false

theorem signS_none {bs : List UInt8} {i : Nat} (h : bn bs i ≠ 42) (h1 : bn bs i ≠ 43) (h2 : bn bs i ≠ 63) (h3 : bn bs i ≠ 123) : (signS bs i).2.2 = 0 := by
  unfold signS; rw [if_neg h, if_neg h1, if_neg h2, if_neg h3]
theorem signsL_none {bs : List UInt8} {i : Nat} (t : RT) (h : (signS bs i).2.2 = 0) : signsL bs 8 t i = .ok (t, i) := by
  rw [signsL, if_pos h]
/-- One atom alone is the expression. -/
theorem expr_atom {bs : List UInt8} {f d i j : Nat} {t : RT} (hg : goesOn bs i) (ha : atomF bs f d i = .ok (t, j)) (hs : (signS bs j).2.2 = 0) (hn : ¬ goesOn bs j) (h124 : bn bs j ≠ 124) : exprF bs (f + 3) d i [] = .ok (t, j) := by
  rw [exprF, branchF, if_pos hg, pieceF, ha]
  simp only [signsL_none t hs]
  rw [branchF, if_neg hn]
  simp [rowT, joinT, h124]
theorem expr_atom_bad {bs : List UInt8} {f d i : Nat} {p : Nat × Nat} (hg : goesOn bs i) (ha : atomF bs f d i = .error p) : exprF bs (f + 3) d i [] = .error p := by
  rw [exprF, branchF, if_pos hg, pieceF, ha]
def deepL (k : Nat) : List UInt8 := List.replicate k 40 ++ 97 :: List.replicate k 41
theorem deepL_len (k : Nat) : (deepL k).length = 2 * k + 1 := by simp [deepL]; omega
theorem deepL_open {k i : Nat} (h : i < k) : bn (deepL k) i = 40 := by
  unfold bn deepL; simp [List.getD_eq_getElem?_getD, List.getElem?_append, h]
theorem deepL_mid (k : Nat) : bn (deepL k) k = 97 := by
  unfold bn deepL; simp [List.getD_eq_getElem?_getD, List.getElem?_append]
theorem deepL_close {k i : Nat} (h : k < i) (h2 : i ≤ 2 * k) : bn (deepL k) i = 41 := by
  obtain ⟨m, rfl⟩ : ∃ m, i = k + 1 + m := ⟨i - (k + 1), by omega⟩
  unfold bn deepL
  have e : k + 1 + m - k = m + 1 := by omega
  have hm : m < k := by omega
  have hn : ¬ (k + 1 + m < k) := by omega
  simp [List.getD_eq_getElem?_getD, List.getElem?_append, e, hm, hn]
theorem deepL_past {k i : Nat} (h : 2 * k < i) : bn (deepL k) i = 0 := by
  unfold bn; rw [List.getD_eq_getElem?_getD, List.getElem?_eq_none (by rw [deepL_len]; omega)]; rfl
theorem deepL_end {k i : Nat} (h : k < i) : (bn (deepL k) i = 41 ∧ i ≤ 2 * k) ∨ (bn (deepL k) i = 0 ∧ 2 * k < i) := by
  rcases Nat.lt_or_ge (2 * k) i with h2 | h2
  · exact .inr ⟨deepL_past h2, h2⟩
  · exact .inl ⟨deepL_close h h2, h2⟩
theorem deepL_stop {k i : Nat} (h : k < i) : (signS (deepL k) i).2.2 = 0 ∧ ¬ goesOn (deepL k) i ∧ bn (deepL k) i ≠ 124 := by
  rcases deepL_end h with ⟨h1, h2⟩ | ⟨h1, h2⟩
  · exact ⟨signS_none (by omega) (by omega) (by omega) (by omega), fun hg => hg.2.2 h1, by omega⟩
  · exact ⟨signS_none (by omega) (by omega) (by omega) (by omega), fun hg => by have := hg.1; rw [deepL_len] at this; omega, by omega⟩
theorem deep_ok (k : Nat) (hk : k ≤ 64) : ∀ (n i f : Nat), i + n = k → exprF (deepL k) (4 * n + 4 + f) i i [] = .ok (tSet (S4.range 97 97), 2 * k + 1 - i)
  | 0, i, f, h => by
    obtain rfl : i = k := by omega
    have e := deepL_mid i
    have hst := deepL_stop (k := i) (i := i + 1) (by omega)
    have hat : atomF (deepL i) (1 + f) i i = .ok (tSet (S4.range 97 97), i + 1) := by
      rw [Nat.add_comm 1 f, atomF, if_neg (by omega)]
      unfold plainS
      rw [e]; simp
    have := expr_atom (d := i) (f := 1 + f) ⟨by rw [deepL_len]; omega, by omega, by omega⟩ hat hst.1 hst.2.1 hst.2.2
    rw [show 4 * 0 + 4 + f = 1 + f + 3 by omega, this, show 2 * i + 1 - i = i + 1 by omega]
  | n + 1, i, f, h => by
    have e := deepL_open (k := k) (i := i) (by omega)
    have ih := deep_ok k hk n (i + 1) f (by omega)
    have hst := deepL_stop (k := k) (i := 2 * k + 1 - i) (by omega)
    have hcl := deepL_close (k := k) (i := 2 * k + 1 - (i + 1)) (by omega) (by omega)
    have hat : atomF (deepL k) (4 * n + 5 + f) i i = .ok (tSet (S4.range 97 97), 2 * k + 1 - i) := by
      rw [show 4 * n + 5 + f = (4 * n + 4 + f) + 1 by omega, atomF, if_pos e, if_neg (by omega), ih]
      simp only [closeT]
      rw [if_pos hcl, show 2 * k + 1 - (i + 1) + 1 = 2 * k + 1 - i by omega]
    have := expr_atom (d := i) (f := 4 * n + 5 + f) ⟨by rw [deepL_len]; omega, by omega, by omega⟩ hat hst.1 hst.2.1 hst.2.2
    rw [show 4 * (n + 1) + 4 + f = 4 * n + 5 + f + 3 by omega, this]
theorem deep_bad (k : Nat) (hk : 64 < k) : ∀ (n i f : Nat), i + n = 64 → exprF (deepL k) (4 * n + 4 + f) i i [] = .error (64, 6)
  | 0, i, f, h => by
    obtain rfl : i = 64 := by omega
    have e := deepL_open (k := k) (i := 64) hk
    have hat : atomF (deepL k) (1 + f) 64 64 = .error (64, 6) := by
      rw [Nat.add_comm 1 f, atomF, if_pos e, if_pos rfl]
    have := expr_atom_bad (d := 64) (f := 1 + f) ⟨by rw [deepL_len]; omega, by omega, by omega⟩ hat
    rw [show 4 * 0 + 4 + f = 1 + f + 3 by omega, this]
  | n + 1, i, f, h => by
    have e := deepL_open (k := k) (i := i) (by omega)
    have ih := deep_bad k hk n (i + 1) f (by omega)
    have hat : atomF (deepL k) (4 * n + 5 + f) i i = .error (64, 6) := by
      rw [show 4 * n + 5 + f = (4 * n + 4 + f) + 1 by omega, atomF, if_pos e, if_neg (by omega), ih]
      rfl
    have := expr_atom_bad (d := i) (f := 4 * n + 5 + f) ⟨by rw [deepL_len]; omega, by omega, by omega⟩ hat
    rw [show 4 * (n + 1) + 4 + f = 4 * n + 5 + f + 3 by omega, this]
theorem deep_parse (k : Nat) (hk : k < 80) : parseS (deepL k) = if 64 < k then .error (64, 6) else .ok (tSet (S4.range 97 97)) := by
  unfold parseS
  rw [if_neg (by rw [deepL_len]; omega), deepL_len]
  by_cases h : 64 < k
  · rw [if_pos h, show 6 * (2 * k + 1) + 5 = 4 * 64 + 4 + (12 * k + 7 - 256) by omega, deep_bad k h 64 0 _ (by omega)]
  · rw [if_neg h, show 6 * (2 * k + 1) + 5 = 4 * k + 4 + (8 * k + 7) by omega, deep_ok k (by omega) k 0 _ (by omega)]
    simp
/-! The examples of the document. -/
theorem ex_or : parseS [97, 124, 98, 42] = .ok (.mk 3 S4.empty 0 0 [tSet (S4.range 97 97), tTimes 0 (-1) (tSet (S4.range 98 98))]) := by kernel_rfl
theorem ex_times : parseS [97, 123, 50, 44, 125] = .ok (tTimes 2 (-1) (tSet (S4.range 97 97))) := by kernel_rfl
theorem ex_plain : parseS [97, 123, 120] = .ok (.mk 2 S4.empty 0 0 [tSet (S4.range 97 97), tSet (S4.range 123 123), tSet (S4.range 120 120)]) := by kernel_rfl
end Go.Proofs.Ytmecogilhoebgaa
