/-
  Numbers and signs of expressions as plain functions over bytes. No program, no conditions.
-/
import Derived.Test.YtmecogilhoebgaaEsc
namespace Go.Proofs.Ytmecogilhoebgaa
set_option linter.unusedVariables false
set_option linter.unusedSimpArgs false

def isDig (c : UInt8) : Bool := decide (48 ≤ c.toNat) && decide (c.toNat ≤ 57)
def numV (l : List UInt8) : Nat := l.foldl (fun v c => v * 10 + (c.toNat - 48)) 0
/-- The number that begins bytes, and how many it has (0: none, or too many). -/
def numS (l : List UInt8) : Nat × Nat := if 3 < (l.takeWhile isDig).length then (0, 0) else (numV (l.takeWhile isDig), (l.takeWhile isDig).length)
/-- What follows the interval's first number of n digits. -/
def intervalT (l : List UInt8) (v n : Nat) : Int × Int × Nat :=
  if n = 0 then (0, 0, 0)
  else if bn l (n + 1) = 44 then
    (if bn l (n + 2 + (numS (l.drop (n + 2))).2) = 125 then ((v : Int), (if (numS (l.drop (n + 2))).2 = 0 then -1 else ((numS (l.drop (n + 2))).1 : Int)), n + 2 + (numS (l.drop (n + 2))).2 + 1) else (0, 0, 0))
  else if bn l (n + 1) = 125 then ((v : Int), (v : Int), n + 2)
  else (0, 0, 0)
def intervalS (l : List UInt8) : Int × Int × Nat := intervalT l (numS (l.drop 1)).1 (numS (l.drop 1)).2
/-- The bounds of the sign at a place, and how many bytes it has. -/
def signS (bs : List UInt8) (i : Nat) : Int × Int × Nat :=
  if bn bs i = 42 then (0, -1, 1) else if bn bs i = 43 then (1, -1, 1) else if bn bs i = 63 then (0, 1, 1) else if bn bs i = 123 then intervalS (bs.drop i) else (0, 0, 0)
theorem numS_le (l : List UInt8) : (numS l).2 ≤ l.length ∧ (numS l).2 ≤ 3 ∧ (numS l).1 ≤ 999 := by
  unfold numS
  have h := (List.takeWhile_sublist (l := l) isDig).length_le
  split
  · simp
  · refine ⟨h, by simp; omega, ?_⟩
    have hall : ∀ c ∈ l.takeWhile isDig, isDig c = true := fun c hc => by
      have := List.all_takeWhile (p := isDig) (l := l)
      rw [List.all_eq_true] at this
      exact this c hc
    generalize l.takeWhile isDig = x at *
    have hd : ∀ c : UInt8, isDig c = true → c.toNat - 48 ≤ 9 := fun c hc => by unfold isDig at hc; simp at hc; omega
    match x with
    | [] => simp [numV]
    | [a] => have := hd a (hall a (by simp)); simp [numV]; omega
    | [a, b] => have := hd a (hall a (by simp)); have := hd b (hall b (by simp)); simp [numV]; omega
    | [a, b, c] => have := hd a (hall a (by simp)); have := hd b (hall b (by simp)); have := hd c (hall c (by simp)); simp [numV]; omega
    | _ :: _ :: _ :: _ :: _ => simp at *
theorem bn_pos {bs : List UInt8} {i c : Nat} (h : bn bs i = c) (hc : 0 < c) : i < bs.length := by
  rcases Nat.lt_or_ge i bs.length with h1 | h1
  · exact h1
  · unfold bn at h; simp [List.getD_eq_getElem?_getD, List.getElem?_eq_none h1] at h; omega
theorem bn_drop (bs : List UInt8) (k i : Nat) : bn (bs.drop k) i = bn bs (k + i) := by
  unfold bn; simp [List.getD_eq_getElem?_getD]
theorem intervalT_le (l : List UInt8) (v n : Nat) : (intervalT l v n).2.2 ≤ l.length := by
  unfold intervalT
  split
  · simp
  · split
    · split
      · rename_i h; have := bn_pos h (by omega); simp; omega
      · simp
    · split
      · rename_i h; have := bn_pos h (by omega); simp; omega
      · simp
theorem signS_le (bs : List UInt8) (i : Nat) (hi : i ≤ bs.length) : i + (signS bs i).2.2 ≤ bs.length := by
  unfold signS
  split
  · rename_i h; have := bn_pos h (by omega); simp; omega
  · split
    · rename_i h; have := bn_pos h (by omega); simp; omega
    · split
      · rename_i h; have := bn_pos h (by omega); simp; omega
      · split
        · have := intervalT_le (bs.drop i) (numS ((bs.drop i).drop 1)).1 (numS ((bs.drop i).drop 1)).2
          unfold intervalS; simp at this ⊢; omega
        · simp; exact hi
end Go.Proofs.Ytmecogilhoebgaa
