/-
  Parts and finds between them are the text: the plain law of MatchParts. No program, no conditions.
-/
import Derived.Test.YtekfpipgcpkejaaGg
namespace Go.Proofs.Ytekfpipgcpkejaa
set_option linter.unusedVariables false
set_option linter.unusedSimpArgs false

theorem parts_round {tx : List UInt8} {FL : List (Nat × Nat)} {k : Nat} {x : Nat × Nat} {b n : Nat} {l : List (List UInt8)} (hd : FL.drop k = x :: FL.drop (k + 1)) (hl : l.drop n = splitF tx (FL.drop k) b) (hx : x.1 < x.2) (hbx : b ≤ x.1) (hxe : x.2 ≤ tx.length) :
    l[n]? = some ((tx.drop b).take (x.1 - b)) ∧ l.drop (n + 1) = splitF tx (FL.drop (k + 1)) x.2 ∧ tx.take b ++ (tx.drop b).take (x.1 - b) ++ (tx.drop x.1).take (x.2 - x.1) = tx.take x.2 := by
  rw [hd, splitF, if_pos hx] at hl
  refine ⟨?_, ?_, ?_⟩
  · have h2 : (l.drop n)[0]? = some ((tx.drop b).take (x.1 - b)) := by rw [hl]; rfl
    rw [List.getElem?_drop] at h2
    exact h2
  · have h2 : (l.drop n).drop 1 = splitF tx (FL.drop (k + 1)) x.2 := by rw [hl]; rfl
    rw [List.drop_drop] at h2
    exact h2
  · have e1 : tx.take b ++ (tx.drop b).take (x.1 - b) = tx.take x.1 := by
      rw [show x.1 = b + (x.1 - b) by omega, List.take_add]; simp
    have e2 : tx.take x.1 ++ (tx.drop x.1).take (x.2 - x.1) = tx.take x.2 := by
      rw [show x.2 = x.1 + (x.2 - x.1) by omega, List.take_add]; simp
    rw [e1, e2]
theorem parts_skip {tx : List UInt8} {FL : List (Nat × Nat)} {k : Nat} {x : Nat × Nat} {b n : Nat} {l : List (List UInt8)} (hd : FL.drop k = x :: FL.drop (k + 1)) (hl : l.drop n = splitF tx (FL.drop k) b) (hx : ¬ x.1 < x.2) : l.drop n = splitF tx (FL.drop (k + 1)) b := by
  rw [hd, splitF, if_neg hx] at hl; exact hl
theorem parts_end {tx : List UInt8} {b n : Nat} {l : List (List UInt8)} (hl : l.drop n = splitF tx [] b) : l.length = n + 1 ∧ l[n]? = some (tx.drop b) ∧ tx.take b ++ tx.drop b = tx := by
  rw [splitF] at hl
  have h1 : (l.drop n).length = 1 := by rw [hl]; rfl
  rw [List.length_drop] at h1
  refine ⟨by omega, ?_, List.take_append_drop _ _⟩
  have h2 : (l.drop n)[0]? = some (tx.drop b) := by rw [hl]; rfl
  rw [List.getElem?_drop] at h2
  exact h2
end Go.Proofs.Ytekfpipgcpkejaa
