/-
  Laws of sets of bytes and of their counts. Plain numbers; no program, no conditions.
-/
import Derived.Test.YtobmdpfljdnlaaaCount
namespace Go.Proofs.Ytobmdpfljdnlaaa
open Go.RowKit
set_option linter.unusedVariables false
set_option linter.unusedSimpArgs false

theorem popN_or_and (a b n : Nat) : popN (a ||| b) n + popN (a &&& b) n = popN a n + popN b n := by
  induction n with
  | zero => rfl
  | succ n ih =>
    simp only [popN, Nat.testBit_or, Nat.testBit_and]
    cases a.testBit n <;> cases b.testBit n <;> simp <;> omega
theorem popN_cpl (a : Nat) (ha : a < 18446744073709551616) : ∀ n, n ≤ 64 → popN a n + popN (cpl a) n = n := by
  intro n
  induction n with
  | zero => intro _; rfl
  | succ n ih =>
    intro hn
    have := ih (by omega)
    simp only [popN, cpl_testBit a n ha (by omega)]
    cases a.testBit n <;> simp <;> omega
theorem S4.count_not {s : S4} (h : s.ok) : s.count + s.not.count = 256 := by
  obtain ⟨ha, hb, hc, hd⟩ := h
  have h1 := popN_cpl s.a ha 64 (by omega)
  have h2 := popN_cpl s.b hb 64 (by omega)
  have h3 := popN_cpl s.c hc 64 (by omega)
  have h4 := popN_cpl s.d hd 64 (by omega)
  unfold S4.count S4.not
  dsimp only
  omega
theorem cpl_or (a b : Nat) (ha : a < 18446744073709551616) (hb : b < 18446744073709551616) : cpl (cpl a ||| cpl b) = a &&& b := by
  refine word_ext (cpl_lt _) (Nat.lt_of_le_of_lt Nat.and_le_left ha) fun j hj => ?_
  rw [cpl_testBit _ j (or_lt (cpl_lt a) (cpl_lt b)) hj, Nat.testBit_or, cpl_testBit a j ha hj, cpl_testBit b j hb hj, Nat.testBit_and]
  simp
/-- What is in both. -/
def S4.both_ (s t : S4) : S4 := (s.not.or t.not).not
theorem S4.mem_both_ {s t : S4} (h : s.ok) (k : t.ok) (x : Nat) : (s.both_ t).mem x = (s.mem x && t.mem x) := by
  unfold S4.both_
  rw [S4.mem_not (S4.or_ok (S4.not_ok s) (S4.not_ok t)), S4.mem_or, S4.mem_not h, S4.mem_not k]
  simp
theorem S4.count_both {s t : S4} (h : s.ok) (k : t.ok) : (s.both_ t).count + (s.or t).count = s.count + t.count := by
  obtain ⟨ha, hb, hc, hd⟩ := h
  obtain ⟨ka, kb, kc, kd⟩ := k
  have h1 := popN_or_and s.a t.a 64
  have h2 := popN_or_and s.b t.b 64
  have h3 := popN_or_and s.c t.c 64
  have h4 := popN_or_and s.d t.d 64
  unfold S4.both_ S4.count S4.not S4.or
  dsimp only
  rw [cpl_or _ _ ha ka, cpl_or _ _ hb kb, cpl_or _ _ hc kc, cpl_or _ _ hd kd]
  omega
theorem S4.or_self (s : S4) : s.or s = s := by unfold S4.or; simp
theorem S4.or_comm (s t : S4) : s.or t = t.or s := by unfold S4.or; simp [Nat.or_comm]
theorem S4.or_not {s : S4} (h : s.ok) : s.or s.not = S4.range 0 255 := by
  refine S4.ext (S4.or_ok h (S4.not_ok s)) (S4.range_ok _ _) fun x hx => ?_
  rw [S4.mem_or, S4.mem_not h, S4.mem_range 0 255 x (by omega) (by omega) hx]
  simp; omega
theorem S4.not_not {s : S4} (h : s.ok) : s.not.not = s := by
  obtain ⟨ha, hb, hc, hd⟩ := h
  unfold S4.not
  dsimp only
  rw [cpl_cpl _ ha, cpl_cpl _ hb, cpl_cpl _ hc, cpl_cpl _ hd]
/-- The bytes below n that are in a set. -/
def S4.cnt (s : S4) : Nat → Nat
  | 0 => 0
  | n + 1 => s.cnt n + (if s.mem n then 1 else 0)
theorem S4.cnt_add (s : S4) (q n : Nat) (hn : n ≤ 64) : s.cnt (64 * q + n) = s.cnt (64 * q) + popN (s.word q) n := by
  induction n with
  | zero => rfl
  | succ n ih =>
    rw [← Nat.add_assoc]
    simp only [S4.cnt, popN]
    rw [ih (by omega)]
    have e1 : (64 * q + n) / 64 = q := by omega
    have e2 : (64 * q + n) % 64 = n := by omega
    unfold S4.mem
    rw [e1, e2]
    omega
theorem S4.cnt_all (s : S4) : s.cnt 256 = s.count := by
  have h0 := s.cnt_add 0 64 (by omega)
  have h1 := s.cnt_add 1 64 (by omega)
  have h2 := s.cnt_add 2 64 (by omega)
  have h3 := s.cnt_add 3 64 (by omega)
  change s.cnt 64 = 0 + popN s.a 64 at h0
  change s.cnt 128 = s.cnt 64 + popN s.b 64 at h1
  change s.cnt 192 = s.cnt 128 + popN s.c 64 at h2
  change s.cnt 256 = s.cnt 192 + popN s.d 64 at h3
  unfold S4.count
  omega
theorem S4.cnt_le (s : S4) (n : Nat) : s.cnt n ≤ n := by
  induction n with
  | zero => simp [S4.cnt]
  | succ n ih => simp only [S4.cnt]; split <;> omega
end Go.Proofs.Ytobmdpfljdnlaaa
