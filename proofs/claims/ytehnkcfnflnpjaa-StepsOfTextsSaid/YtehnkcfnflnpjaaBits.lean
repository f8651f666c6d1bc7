/-
  Plain facts on 64-bit words: and, or, complement, one bit, how many bits; sets of four words. Without a program; no conditions.
-/
import Derived.Test.YtehnkcfnflnpjaaBase
import Derived.Laws.BitsAllLaws
import Derived.Laws.BitsLemmas
namespace Go.Proofs.Ytehnkcfnflnpjaa
open Go.RowKit
set_option linter.unusedVariables false
set_option linter.unusedSimpArgs false

theorem ofInt_u64 (a : Nat) (ha : a < 18446744073709551616) : (BitVec.ofInt 64 (a : Int)).toNat = a := by
  rw [BitVec.ofInt_natCast, BitVec.toNat_ofNat]; exact Nat.mod_eq_of_lt (by omega)
theorem u64_and_ (a b : Nat) (ha : a < 18446744073709551616) (hb : b < 18446744073709551616) : bits .and .u64 (a : Int) (b : Int) = ((a &&& b : Nat) : Int) := by
  have hx : a &&& b < 2 ^ 64 := Nat.and_lt_two_pow _ (by omega)
  show IntKind.u64.wrap ((BitVec.ofInt 64 (a : Int) &&& BitVec.ofInt 64 (b : Int)).toNat : Int) = _
  rw [BitVec.toNat_and, ofInt_u64 a ha, ofInt_u64 b hb, IntKind.wrap_u64]
  omega
theorem u64_or_ (a b : Nat) (ha : a < 18446744073709551616) (hb : b < 18446744073709551616) : bits .or .u64 (a : Int) (b : Int) = ((a ||| b : Nat) : Int) := by
  have hx : a ||| b < 2 ^ 64 := Nat.or_lt_two_pow (by omega) (by omega)
  show IntKind.u64.wrap ((BitVec.ofInt 64 (a : Int) ||| BitVec.ofInt 64 (b : Int)).toNat : Int) = _
  rw [BitVec.toNat_or, ofInt_u64 a ha, ofInt_u64 b hb, IntKind.wrap_u64]
  omega
theorem bit_asked (a y : Nat) (ha : a < 18446744073709551616) : (bits BinOp.and IntKind.u64 ((a : Int) / 2 ^ y) 1 == 1) = a.testBit y := by
  have h1 : ((a : Int) / 2 ^ y) = ((a / 2 ^ y : Nat) : Int) := by simp
  have h2 : a / 2 ^ y < 18446744073709551616 := Nat.lt_of_le_of_lt (Nat.div_le_self _ _) ha
  have h3 := u64_and_ (a / 2 ^ y) 1 h2 (by omega)
  rw [h1]
  have e : (bits BinOp.and IntKind.u64 ((a / 2 ^ y : Nat) : Int) 1) = ((a / 2 ^ y &&& 1 : Nat) : Int) := h3
  rw [e, Nat.and_one_is_mod, Nat.testBit_eq_decide_div_mod_eq]
  by_cases h : a / 2 ^ y % 2 = 1 <;> simp [h] <;> omega
theorem or_pow_testBit (a y j : Nat) : (a ||| 2 ^ y).testBit j = (a.testBit j || decide (y = j)) := by
  rw [Nat.testBit_or, Nat.testBit_two_pow]
def cpl (a : Nat) : Nat := 18446744073709551615 - a
theorem u64_cpl (a : Nat) (ha : a < 18446744073709551616) : bits .xor .u64 IntKind.u64.max (a : Int) = ((cpl a : Nat) : Int) := by
  have hm : IntKind.u64.max = ((18446744073709551615 : Nat) : Int) := by decide
  have hx : 18446744073709551615 ^^^ a < 2 ^ 64 := Nat.xor_lt_two_pow (by omega) (by omega)
  have he : 18446744073709551615 ^^^ a = cpl a := by
    have h : cpl a = 2 ^ 64 - (a + 1) := by unfold cpl; omega
    rw [h]
    apply Nat.eq_of_testBit_eq
    intro j
    rw [Nat.testBit_two_pow_sub_succ (by omega), Nat.testBit_xor, show (18446744073709551615 : Nat) = 2 ^ 64 - 1 by omega, Nat.testBit_two_pow_sub_one]
    by_cases hj : j < 64
    · simp [hj]
    · rw [Nat.testBit_lt_two_pow (Nat.lt_of_lt_of_le (show a < 2 ^ 64 by omega) (Nat.pow_le_pow_right (by omega) (by omega)))]
      simp [hj]
  rw [hm]
  show IntKind.u64.wrap ((BitVec.ofInt 64 ((18446744073709551615 : Nat) : Int) ^^^ BitVec.ofInt 64 (a : Int)).toNat : Int) = _
  rw [BitVec.toNat_xor, ofInt_u64 _ (by omega), ofInt_u64 a ha, IntKind.wrap_u64, ← he]
  omega
theorem cpl_lt (a : Nat) : cpl a < 18446744073709551616 := by unfold cpl; omega
theorem cpl_cpl (a : Nat) (ha : a < 18446744073709551616) : cpl (cpl a) = a := by unfold cpl; omega
theorem cpl_testBit (a j : Nat) (ha : a < 18446744073709551616) (hj : j < 64) : (cpl a).testBit j = !a.testBit j := by
  have h : cpl a = 2 ^ 64 - (a + 1) := by unfold cpl; omega
  rw [h, Nat.testBit_two_pow_sub_succ (by omega)]
  simp [hj]
theorem word_ext {a b : Nat} (ha : a < 18446744073709551616) (hb : b < 18446744073709551616) (h : ∀ j, j < 64 → a.testBit j = b.testBit j) : a = b := by
  apply Nat.eq_of_testBit_eq
  intro j
  by_cases hj : j < 64
  · exact h j hj
  · rw [Nat.testBit_lt_two_pow (Nat.lt_of_lt_of_le (show a < 2 ^ 64 by omega) (Nat.pow_le_pow_right (by omega) (by omega))), Nat.testBit_lt_two_pow (Nat.lt_of_lt_of_le (show b < 2 ^ 64 by omega) (Nat.pow_le_pow_right (by omega) (by omega)))]
theorem or_lt {a b : Nat} (ha : a < 18446744073709551616) (hb : b < 18446744073709551616) : a ||| b < 18446744073709551616 := Nat.or_lt_two_pow (n := 64) (by omega) (by omega)
theorem pow_lt {y : Nat} (hy : y < 64) : 2 ^ y < 18446744073709551616 := by
  have : 2 ^ y < 2 ^ 64 := Nat.pow_lt_pow_right (by omega) hy
  omega

structure S4 where
  a : Nat
  b : Nat
  c : Nat
  d : Nat
def S4.ok (s : S4) : Prop := s.a < 18446744073709551616 ∧ s.b < 18446744073709551616 ∧ s.c < 18446744073709551616 ∧ s.d < 18446744073709551616
def S4.val (s : S4) : Value := .agg #[.int .u64 (s.a : Int), .int .u64 (s.b : Int), .int .u64 (s.c : Int), .int .u64 (s.d : Int)]
def S4.word (s : S4) (i : Nat) : Nat := if i = 0 then s.a else if i = 1 then s.b else if i = 2 then s.c else s.d
def S4.mem (s : S4) (x : Nat) : Bool := (s.word (x / 64)).testBit (x % 64)
def S4.empty : S4 := ⟨0, 0, 0, 0⟩
def S4.or (s t : S4) : S4 := ⟨s.a ||| t.a, s.b ||| t.b, s.c ||| t.c, s.d ||| t.d⟩
def S4.not (s : S4) : S4 := ⟨cpl s.a, cpl s.b, cpl s.c, cpl s.d⟩
def S4.add (s : S4) (x : Nat) : S4 :=
  if x / 64 = 0 then { s with a := s.a ||| 2 ^ (x % 64) } else if x / 64 = 1 then { s with b := s.b ||| 2 ^ (x % 64) } else if x / 64 = 2 then { s with c := s.c ||| 2 ^ (x % 64) } else { s with d := s.d ||| 2 ^ (x % 64) }
theorem S4.empty_ok : S4.empty.ok := by unfold S4.ok S4.empty; simp
theorem S4.or_ok {s t : S4} (h : s.ok) (k : t.ok) : (s.or t).ok := ⟨or_lt h.1 k.1, or_lt h.2.1 k.2.1, or_lt h.2.2.1 k.2.2.1, or_lt h.2.2.2 k.2.2.2⟩
theorem S4.not_ok (s : S4) : s.not.ok := ⟨cpl_lt _, cpl_lt _, cpl_lt _, cpl_lt _⟩
theorem S4.add_ok {s : S4} (h : s.ok) (x : Nat) : (s.add x).ok := by
  have hy : x % 64 < 64 := Nat.mod_lt _ (by omega)
  unfold S4.add
  (repeat' split)
  · exact ⟨or_lt h.1 (pow_lt hy), h.2.1, h.2.2.1, h.2.2.2⟩
  · exact ⟨h.1, or_lt h.2.1 (pow_lt hy), h.2.2.1, h.2.2.2⟩
  · exact ⟨h.1, h.2.1, or_lt h.2.2.1 (pow_lt hy), h.2.2.2⟩
  · exact ⟨h.1, h.2.1, h.2.2.1, or_lt h.2.2.2 (pow_lt hy)⟩
theorem S4.mem_empty (x : Nat) : S4.empty.mem x = false := by
  unfold S4.mem S4.word S4.empty
  (repeat' split) <;> simp
theorem S4.mem_or (s t : S4) (x : Nat) : (s.or t).mem x = (s.mem x || t.mem x) := by
  unfold S4.mem S4.word S4.or
  (repeat' split) <;> simp [Nat.testBit_or]
theorem S4.mem_not {s : S4} (h : s.ok) (x : Nat) : s.not.mem x = !s.mem x := by
  have hy : x % 64 < 64 := Nat.mod_lt _ (by omega)
  obtain ⟨h1, h2, h3, h4⟩ := h
  unfold S4.mem S4.word S4.not
  (repeat' split) <;> exact cpl_testBit _ _ (by assumption) hy
theorem S4.mem_add (s : S4) (x j : Nat) (hx : x < 256) (hj : j < 256) : (s.add x).mem j = (s.mem j || decide (x = j)) := by
  have e : x = j ↔ x / 64 = j / 64 ∧ x % 64 = j % 64 := by omega
  unfold S4.mem S4.word S4.add
  by_cases h0 : x / 64 = 0
  · rw [if_pos h0]
    by_cases g : j / 64 = 0
    · simp only [g, if_true, or_pow_testBit]; congr 1; simp [e, h0, g]
    · have : ¬ x = j := fun h => g (by rw [← h]; exact h0)
      simp [g, this]
  · rw [if_neg h0]
    by_cases h1 : x / 64 = 1
    · rw [if_pos h1]
      by_cases g : j / 64 = 1
      · simp only [g, if_true, or_pow_testBit]; simp [e, h1, g, Nat.testBit_two_pow]
      · have : ¬ x = j := fun h => g (by rw [← h]; exact h1)
        simp [g, this]
    · rw [if_neg h1]
      by_cases h2 : x / 64 = 2
      · rw [if_pos h2]
        by_cases g : j / 64 = 2
        · simp only [g, if_true, or_pow_testBit]; simp [e, h2, g, Nat.testBit_two_pow]
        · have : ¬ x = j := fun h => g (by rw [← h]; exact h2)
          simp [g, this]
      · rw [if_neg h2]
        have h3 : x / 64 = 3 := by omega
        by_cases g : j / 64 = 3
        · simp only [g, or_pow_testBit]; simp [e, h3, g, Nat.testBit_two_pow]
        · have : ¬ x = j := fun h => g (by rw [← h]; exact h3)
          have g' : j / 64 = 0 ∨ j / 64 = 1 ∨ j / 64 = 2 := by omega
          rcases g' with g' | g' | g' <;> simp [g', this]
theorem S4.ext {s t : S4} (h : s.ok) (k : t.ok) (hm : ∀ x, x < 256 → s.mem x = t.mem x) : s = t := by
  obtain ⟨h1, h2, h3, h4⟩ := h
  obtain ⟨k1, k2, k3, k4⟩ := k
  have H : ∀ i j, i < 4 → j < 64 → (s.word i).testBit j = (t.word i).testBit j := fun i j hi hj => by
    have := hm (64 * i + j) (by omega)
    unfold S4.mem at this
    rwa [show (64 * i + j) / 64 = i by omega, show (64 * i + j) % 64 = j by omega] at this
  cases s; cases t
  simp only [S4.mk.injEq]
  exact ⟨word_ext h1 k1 fun j hj => H 0 j (by omega) hj, word_ext h2 k2 fun j hj => H 1 j (by omega) hj, word_ext h3 k3 fun j hj => H 2 j (by omega) hj, word_ext h4 k4 fun j hj => H 3 j (by omega) hj⟩
def S4.span (f : Nat) : Nat → S4
  | 0 => S4.empty
  | n + 1 => (S4.span f n).add (f + n)
theorem S4.span_ok (f n : Nat) : (S4.span f n).ok := by
  induction n with
  | zero => exact S4.empty_ok
  | succ n ih => exact S4.add_ok ih _
theorem S4.mem_span (f n j : Nat) (h : f + n ≤ 256) (hj : j < 256) : (S4.span f n).mem j = decide (f ≤ j ∧ j < f + n) := by
  induction n with
  | zero => rw [S4.span, S4.mem_empty, Bool.eq_iff_iff]; simp; try omega
  | succ n ih =>
    rw [S4.span, S4.mem_add _ _ _ (by omega) hj, ih (by omega)]
    rw [Bool.eq_iff_iff]; simp; omega
def S4.range (f t : Nat) : S4 := S4.span f (t + 1 - f)
theorem S4.range_ok (f t : Nat) : (S4.range f t).ok := S4.span_ok _ _
theorem S4.mem_range (f t j : Nat) (hf : f < 256) (ht : t < 256) (hj : j < 256) : (S4.range f t).mem j = decide (f ≤ j ∧ j ≤ t) := by
  unfold S4.range
  rw [S4.mem_span _ _ _ (by omega) hj]
  rw [Bool.eq_iff_iff]; simp; omega

theorem u64_or_pow (a y : Nat) (ha : a < 18446744073709551616) (hy : y < 64) : bits .or .u64 (a : Int) (IntKind.u64.wrap (2 ^ y)) = ((a ||| 2 ^ y : Nat) : Int) := by
  have hp := pow_lt hy
  have e : IntKind.u64.wrap (2 ^ y) = ((2 ^ y : Nat) : Int) := by
    have e1 : ((2 : Int) ^ y) = ((2 ^ y : Nat) : Int) := by simp
    rw [e1]
    generalize 2 ^ y = q at *
    rw [IntKind.wrap_u64]
    omega
  rw [e, u64_or_ a _ ha hp]
def S4.cells (s : S4) : Array Value := #[.int .u64 (s.a : Int), .int .u64 (s.b : Int), .int .u64 (s.c : Int), .int .u64 (s.d : Int)]
theorem S4.word_lt {s : S4} (h : s.ok) (i : Nat) : s.word i < 18446744073709551616 := by
  obtain ⟨h1, h2, h3, h4⟩ := h
  unfold S4.word
  (repeat' split) <;> assumption
theorem S4.cells_at (s : S4) (i : Nat) (hi : i < 4) : s.cells[i]? = some (.int .u64 (s.word i : Int)) := by
  have : i = 0 ∨ i = 1 ∨ i = 2 ∨ i = 3 := by omega
  rcases this with rfl | rfl | rfl | rfl <;> rfl
theorem S4.four {w : World} {g : Nat} {t : TypeId} {s : S4} (h : Bk w g t s.cells) :
    (w.cell? ⟨g, 0, none⟩ = some (.int .u64 (s.a : Int)) ∧ w.cell? ⟨g, 1, none⟩ = some (.int .u64 (s.b : Int)) ∧ w.cell? ⟨g, 2, none⟩ = some (.int .u64 (s.c : Int)) ∧ w.cell? ⟨g, 3, none⟩ = some (.int .u64 (s.d : Int))) ∧
    (w.frozen? ⟨g, 0, none⟩ = false ∧ w.frozen? ⟨g, 1, none⟩ = false ∧ w.frozen? ⟨g, 2, none⟩ = false ∧ w.frozen? ⟨g, 3, none⟩ = false) :=
  ⟨⟨h.cell_ rfl, h.cell_ rfl, h.cell_ rfl, h.cell_ rfl⟩, h.frozen 0, h.frozen 1, h.frozen 2, h.frozen 3⟩
theorem S4.cells_add (s : S4) (x : Nat) (hx : x < 256) : s.cells.setIfInBounds (x / 64) (.int .u64 ((s.word (x / 64) ||| 2 ^ (x % 64) : Nat) : Int)) = (s.add x).cells := by
  have : x / 64 = 0 ∨ x / 64 = 1 ∨ x / 64 = 2 ∨ x / 64 = 3 := by omega
  unfold S4.add
  rcases this with h | h | h | h <;> rw [h] <;> rfl
end Go.Proofs.Ytehnkcfnflnpjaa
