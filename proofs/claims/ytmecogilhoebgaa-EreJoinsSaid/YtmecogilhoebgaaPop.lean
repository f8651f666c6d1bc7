/-
  How many bits of a word are 1, as math/bits reckons it: plain numbers. Without a program; no conditions.
-/
import Derived.Test.YtmecogilhoebgaaBits
namespace Go.Proofs.Ytmecogilhoebgaa
open Go.RowKit
set_option linter.unusedVariables false
set_option linter.unusedSimpArgs false

/-- By definition: the bits below n that are 1. -/
def popN (x : Nat) : Nat → Nat
  | 0 => 0
  | n + 1 => popN x n + (if x.testBit n then 1 else 0)
theorem popN_le (x n : Nat) : popN x n ≤ n := by
  induction n with
  | zero => simp [popN]
  | succ n ih => simp only [popN]; split <;> omega

/-- The three folds over bytes: a byte's own count in its place. -/
def m0 : Nat → Nat | 0 => 0 | n + 1 => 256 * m0 n + 85
def m1 : Nat → Nat | 0 => 0 | n + 1 => 256 * m1 n + 51
def m2 : Nat → Nat | 0 => 0 | n + 1 => 256 * m2 n + 15
def f1 (n x : Nat) : Nat := (x / 2 &&& m0 n) + (x &&& m0 n)
def f2 (n x : Nat) : Nat := (x / 4 &&& m1 n) + (x &&& m1 n)
def f3 (n x : Nat) : Nat := (x / 16 + x) &&& m2 n

theorem and_split (a b c d : Nat) (hb : b < 256) (hd : d < 256) : (256 * a + b) &&& (256 * c + d) = 256 * (a &&& c) + (b &&& d) := by
  have hbd : b &&& d < 2 ^ 8 := Nat.and_lt_two_pow _ (by omega)
  apply Nat.eq_of_testBit_eq
  intro j
  rw [Nat.testBit_and, show 256 = 2 ^ 8 by rfl, Nat.testBit_two_pow_mul_add _ (by omega), Nat.testBit_two_pow_mul_add _ (by omega), Nat.testBit_two_pow_mul_add _ hbd]
  split <;> simp [Nat.testBit_and]
theorem low1 : ∀ h : Fin 2, ∀ l : Fin 256, ((128 * h.val + l.val / 2) &&& 85) + (l.val &&& 85) = f1 1 l.val := by decide +kernel
theorem f1_split (n h l : Nat) (hl : l < 256) : f1 (n + 1) (256 * h + l) = 256 * f1 n h + f1 1 l := by
  have e : (256 * h + l) / 2 = 256 * (h / 2) + (128 * (h % 2) + l / 2) := by omega
  have e2 := low1 ⟨h % 2, Nat.mod_lt _ (by omega)⟩ ⟨l, hl⟩
  simp only at e2
  unfold f1 at e2 ⊢
  simp only [m0] at e2 ⊢
  rw [e, and_split _ _ _ _ (by omega) (by omega), and_split _ _ _ _ hl (by omega)]
  simp only [Nat.mul_zero, Nat.zero_add] at e2 ⊢
  omega
theorem low2 : ∀ h : Fin 4, ∀ l : Fin 256, ((64 * h.val + l.val / 4) &&& 51) + (l.val &&& 51) = f2 1 l.val := by decide +kernel
theorem f2_split (n h l : Nat) (hl : l < 256) : f2 (n + 1) (256 * h + l) = 256 * f2 n h + f2 1 l := by
  have e : (256 * h + l) / 4 = 256 * (h / 4) + (64 * (h % 4) + l / 4) := by omega
  have e2 := low2 ⟨h % 4, Nat.mod_lt _ (by omega)⟩ ⟨l, hl⟩
  simp only at e2
  unfold f2 at e2 ⊢
  simp only [m1] at e2 ⊢
  rw [e, and_split _ _ _ _ (by omega) (by omega), and_split _ _ _ _ hl (by omega)]
  simp only [Nat.mul_zero, Nat.zero_add] at e2 ⊢
  omega
/-- A byte's count, by the three folds; nibbles stay below 16. -/
def pop8 (l : Nat) : Nat := f3 1 (f2 1 (f1 1 l))
theorem low3 : ∀ h : Fin 16, ∀ l : Fin 256, l.val / 16 ≤ 4 → l.val % 16 ≤ 4 → h.val ≤ 4 → ((16 * h.val + l.val / 16 + l.val) &&& 15) = f3 1 l.val ∧ 16 * h.val + l.val / 16 + l.val < 256 := by decide +kernel
theorem nib : ∀ l : Fin 256, f1 1 l.val < 256 ∧ f2 1 (f1 1 l.val) < 256 ∧ f2 1 (f1 1 l.val) / 16 ≤ 4 ∧ f2 1 (f1 1 l.val) % 16 ≤ 4 ∧ pop8 l.val = popN l.val 8 ∧ pop8 l.val ≤ 8 := by decide +kernel
theorem f3_split (n h l : Nat) (hl : l < 256) (h1 : l / 16 ≤ 4) (h2 : l % 16 ≤ 4) (h3 : h % 16 ≤ 4) : f3 (n + 1) (256 * h + l) = 256 * f3 n h + f3 1 l := by
  have e : (256 * h + l) / 16 + (256 * h + l) = 256 * (h / 16 + h) + (16 * (h % 16) + l / 16 + l) := by omega
  obtain ⟨e2, e3⟩ := low3 ⟨h % 16, Nat.mod_lt _ (by omega)⟩ ⟨l, hl⟩ h1 h2 h3
  simp only at e2 e3
  unfold f3 at e2 ⊢
  simp only [m2] at e2 ⊢
  rw [e, and_split _ _ _ _ e3 (by omega)]
  simp only [Nat.mul_zero, Nat.zero_add] at e2 ⊢
  omega
/-- A number of n bytes: the counts of its bytes in their places. -/
def spread : Nat → Nat → Nat
  | 0, _ => 0
  | n + 1, x => 256 * spread n (x / 256) + popN (x % 256) 8
theorem f2f1_nib (n x : Nat) : f2 n (f1 n x) % 16 ≤ 4 := by
  cases n with
  | zero => simp [f2, m1]
  | succ n =>
    obtain ⟨a1, a2, a3, a4, _⟩ := nib ⟨x % 256, Nat.mod_lt _ (by omega)⟩
    dsimp only at a1 a2 a3 a4
    have e : x = 256 * (x / 256) + x % 256 := by omega
    rw [e, f1_split _ _ _ (Nat.mod_lt _ (by omega)), f2_split _ _ _ a1]
    omega
theorem folds (n x : Nat) : f3 n (f2 n (f1 n x)) = spread n x := by
  induction n generalizing x with
  | zero => simp [f3, m2, spread]
  | succ n ih =>
    obtain ⟨a1, a2, a3, a4, a5, _⟩ := nib ⟨x % 256, Nat.mod_lt _ (by omega)⟩
    have e : x = 256 * (x / 256) + x % 256 := by omega
    conv => lhs; rw [e]
    rw [f1_split _ _ _ (Nat.mod_lt _ (by omega)), f2_split _ _ _ a1, f3_split _ _ _ a2 a3 a4 (f2f1_nib _ _), ih]
    show _ = 256 * spread n (x / 256) + popN (x % 256) 8
    unfold pop8 at a5
    simp only at a5
    rw [a5]
theorem popN_high (x n : Nat) : popN x (8 + n) = popN (x % 256) 8 + popN (x / 256) n := by
  induction n with
  | zero =>
    have h : ∀ k, k ≤ 8 → popN x k = popN (x % 256) k := fun k hk => by
      induction k with
      | zero => rfl
      | succ k ih =>
        simp only [popN]
        rw [ih (by omega), show 256 = 2 ^ 8 by rfl, Nat.testBit_mod_two_pow]
        simp [show k < 8 by omega]
    simpa [popN] using h 8 (Nat.le_refl _)
  | succ n ih =>
    have e1 : popN x (8 + (n + 1)) = popN x (8 + n) + (if x.testBit (8 + n) then 1 else 0) := rfl
    have e2 : popN (x / 256) (n + 1) = popN (x / 256) n + (if x.testBit (8 + n) then 1 else 0) := by
      show popN (x / 256) n + (if (x / 256).testBit n then 1 else 0) = _
      rw [show (256 : Nat) = 2 ^ 8 by rfl, Nat.testBit_div_two_pow, Nat.add_comm n 8]
    rw [e1, e2, ih]
    omega
theorem spread8 (x : Nat) : ∃ c0 c1 c2 c3 c4 c5 c6 c7 : Nat, (c0 ≤ 8 ∧ c1 ≤ 8 ∧ c2 ≤ 8 ∧ c3 ≤ 8 ∧ c4 ≤ 8 ∧ c5 ≤ 8 ∧ c6 ≤ 8 ∧ c7 ≤ 8) ∧ spread 8 x = c0 + 256 * c1 + 65536 * c2 + 16777216 * c3 + 4294967296 * c4 + 1099511627776 * c5 + 281474976710656 * c6 + 72057594037927936 * c7 ∧ popN x 64 = c0 + c1 + c2 + c3 + c4 + c5 + c6 + c7 := by
  refine ⟨_, _, _, _, _, _, _, _, ⟨popN_le (x % 256) 8, popN_le (x / 256 % 256) 8, popN_le (x / 256 / 256 % 256) 8, popN_le (x / 256 / 256 / 256 % 256) 8, popN_le (x / 256 / 256 / 256 / 256 % 256) 8, popN_le (x / 256 / 256 / 256 / 256 / 256 % 256) 8, popN_le (x / 256 / 256 / 256 / 256 / 256 / 256 % 256) 8, popN_le (x / 256 / 256 / 256 / 256 / 256 / 256 / 256 % 256) 8⟩, ?_, ?_⟩
  · simp only [spread]; omega
  · rw [show 64 = 8 + 56 by rfl, popN_high, show 56 = 8 + 48 by rfl, popN_high, show 48 = 8 + 40 by rfl, popN_high, show 40 = 8 + 32 by rfl, popN_high, show 32 = 8 + 24 by rfl, popN_high, show 24 = 8 + 16 by rfl, popN_high, show 16 = 8 + 8 by rfl, popN_high]
    have h : ∀ (_ : Nat) (y : Nat), popN y 8 = popN (y % 256) 8 := fun _ y => by have := popN_high y 0; simpa [popN] using this
    rw [h 0 (x / 256 / 256 / 256 / 256 / 256 / 256 / 256)]
    omega
end Go.Proofs.Ytmecogilhoebgaa
